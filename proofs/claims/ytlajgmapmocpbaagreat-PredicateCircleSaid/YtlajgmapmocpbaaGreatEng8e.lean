/- The engine, part 8: an operation's step, and a region in the text's order, are right. -/
import Derived.Test.YtlajgmapmocpbaaGreatEng7e
set_option linter.unusedSimpArgs false
set_option linter.unusedVariables false
namespace Go.Eng
open Go Go.RowKit

/-- What a call's answer promises. -/
def CallOk (P : Program) (f : FuncId) (args : List AV) (H : List Blk) : CRes → Prop
  | .loc v ws rd n => ∀ H' : List Blk, H.length + n ≤ H'.length → (∀ b ∈ rd, b < H.length → H'[b]? = H[b]?) → ∀ (out : Nat → Prop) (B : Nat → Prop) (w : World) (π : List (Option PB)) (vs : List Value),
      Inv out B w π H' → (∀ j, H.length ≤ j → j < H.length + n → ∀ q, π[j]? ≠ some (some q)) → RvL w (muOf out π H') π args vs →
      Calls P f vs.toArray w fun e w' => ∃ u π', e = .returned u ∧ Ext B w w' (muOf out π H') (muOf out π' (updAll H' ws)) π π' ∧ Inv out B w' π' (updAll H' ws) ∧ Rv w' (muOf out π' (updAll H' ws)) π' v u ∧
        ∀ j, (∀ b, (j, b) ∉ ws) → π'[j]? = π[j]?
  | .whole v H' => ∀ (out : Nat → Prop) (B : Nat → Prop) (w : World) (π : List (Option PB)) (vs : List Value), Inv out B w π H → RvL w (muOf out π H) π args vs →
      Calls P f vs.toArray w fun e w' => ∃ u π', e = .returned u ∧ Ext B w w' (muOf out π H) (muOf out π' H') π π' ∧ Inv out B w' π' H' ∧ Rv w' (muOf out π' H') π' v u

def CallsOk (P : Program) (call : CallF) : Prop := ∀ f args H r, call f args H = some r → CallOk P f args H r

/-- A state reads as the abstract one. -/
structure Rep (out : Nat → Prop) (B : Nat → Prop) (w : World) (π : List (Option PB)) (st : St) (a : Act) : Prop where
  defers : a.defers = []
  slots : RvL w (muOf out π st.heap) π st.slots a.tmps.toList
  inv : Inv out B w π st.heap

section
variable {P : Program} {out : Nat → Prop} {B : Nat → Prop} {w : World} {π : List (Option PB)}

theorem slot_sound {mu : Nat → Prop} {slots : List AV} {tmps : Array Value} (h : RvL w mu π slots tmps.toList) (t : Nat) : Rv w mu π (getS slots t) (tmps.getD t undef) := by
  rw [getS_eq]
  cases hs : slots[t]? with
  | none => simp [List.getD, hs, Rv]
  | some A =>
    obtain ⟨v, h1, h2⟩ := RvL.get _ _ t A h hs
    have e1 : slots.getD t .unk = A := by simp [List.getD, hs]
    have e2 : tmps.getD t undef = v := by
      rw [Array.getElem?_toList] at h1
      rw [Array.getD_eq_getD_getElem?, h1]; rfl
    rw [e1, e2]; exact h2

theorem evA_sound {mu : Nat → Prop} {slots : List AV} {a : Act} (h : RvL w mu π slots a.tmps.toList) : ∀ x, Rv w mu π (evA slots x) (a.eval x)
  | .tmp t => slot_sound h t
  | .const _ => rfl
  | .global _ => rfl
  | .func _ => ⟨#[], #[], rfl, rfl, rfl⟩

theorem wantedA_sound {mu : Nat → Prop} {ops : Array Oper} {o : Oper} {slots : List AV} {a : Act} {b : Bool} (h : RvL w mu π slots a.tmps.toList) (hw : wantedA ops.toList o slots = some b) :
    Region.wanted o (yielded ops a.tmps) = b := by
  unfold wantedA at hw
  unfold Region.wanted
  split at hw
  · rename_i hg; cases hw; simp [hg]
  · rename_i j want hg
    split at hw
    · rename_i oj hj
      split at hw
      · rename_i d hd
        split at hw
        · rename_i c hc
          cases hw
          have hs := slot_sound h d
          rw [hc] at hs
          have hv : a.tmps.getD d undef = .bool c := hs
          have hv' : a.tmps[d]? = some (.bool c) := by
            rw [Array.getD_eq_getD_getElem?] at hv
            cases ht : a.tmps[d]? with
            | none => rw [ht] at hv; simp [undef] at hv
            | some x => rw [ht] at hv; simpa using hv
          have hy : yielded ops a.tmps j = some c := by
            rw [Array.getElem?_toList] at hj
            simp [yielded, hj, hd, hv']
          simp [hg, hy]
        · rename_i vs hc
          cases hw
          have hs := slot_sound h d
          rw [hc] at hs
          have hv : a.tmps.getD d undef = .tuple vs := hs
          have hy : yielded ops a.tmps j = none := by
            rw [Array.getElem?_toList] at hj
            rw [Array.getD_eq_getD_getElem?] at hv
            cases ht : a.tmps[d]? with
            | none => simp [yielded, hj, hd, ht]
            | some x => rw [ht] at hv; simp only [Option.getD_some] at hv; subst hv; simp [yielded, hj, hd, ht]
          simp [hg, hy]
        · cases hw
      · cases hw
    · cases hw

theorem put_sound {mu : Nat → Prop} {slots : List AV} {a : Act} {dst : Option Tmp} {A : AV} {v : Value} (h : RvL w mu π slots a.tmps.toList) (hA : Rv w mu π A v) : RvL w mu π (putA slots dst A) (a.put dst v).tmps.toList := by
  cases dst with
  | none => exact h
  | some d => simp only [putA, Act.put, Array.toList_setIfInBounds]; exact RvL.set _ _ d A v h hA
theorem put_defers {a : Act} {dst : Option Tmp} {v : Value} : (a.put dst v).defers = a.defers := by cases dst <;> rfl

theorem Inv.extend {H : List Blk} (hI : Inv out B w π H) (n : Nat) :
    Inv out B w (π ++ List.replicate n none) (H ++ deads n) ∧ Ext B w w (muOf out π H) (muOf out (π ++ List.replicate n none) (H ++ deads n)) π (π ++ List.replicate n none) := by
  have hl := hI.len
  have gH : ∀ {i : Nat} {x : Blk}, (H ++ deads n)[i]? = some x → H[i]? = some x ∨ (H.length ≤ i ∧ x = .dead) := by
    intro i x h
    by_cases hi : i < H.length
    · rw [List.getElem?_append_left hi] at h; exact .inl h
    · rw [List.getElem?_append_right (by omega)] at h
      refine .inr ⟨by omega, ?_⟩
      have := List.mem_of_getElem? h
      simp [deads] at this
      exact this.2
  have gπ : ∀ {i : Nat} {p : PB}, (π ++ List.replicate n none)[i]? = some (some p) → π[i]? = some (some p) := by
    intro i p h
    by_cases hi : i < π.length
    · rwa [List.getElem?_append_left hi] at h
    · rw [List.getElem?_append_right (by omega)] at h
      have := List.mem_of_getElem? h
      simp at this
  have hE : Ext B w w (muOf out π H) (muOf out (π ++ List.replicate n none) (H ++ deads n)) π (π ++ List.replicate n none) := by
    refine ⟨fun _ _ => rfl, Nat.le_refl _, fun b _ hb => ⟨rfl, ?_⟩, fun i p h => ?_, rfl, rfl, rfl⟩
    · rintro (ho | ⟨i, x, p, h1, h2, h3, h4⟩)
      · exact hb (.inl ho)
      · rcases gH h1 with h1' | ⟨_, rfl⟩
        · exact hb (.inr ⟨i, x, p, h1', h2, gπ h3, h4⟩)
        · simp [Blk.isMut] at h2
    · rw [List.getElem?_append_left (getElem?_lt h)]; exact h
  refine ⟨⟨by simp [hl, deads], hI.bound, hI.out_lt, ?_, ?_, ?_⟩, hE⟩
  · intro i x p h1 h2 h3
    rcases gH h1 with h1' | ⟨_, rfl⟩
    · exact hI.base i x p h1' (gπ h2) h3
    · simp [Blk.isLive] at h3
  · intro i x p h1 h2
    rcases gH h1 with h1' | ⟨_, rfl⟩
    · exact BlkOk.ext hE (fun _ => rfl) (hI.ok i x p h1' (gπ h2))
    · trivial
  · intro i j x y p q hij h1 h2 h3 h4 h5 h6
    rcases gH h1 with h1' | ⟨_, rfl⟩
    · rcases gH h2 with h2' | ⟨_, rfl⟩
      · exact hI.sep i j x y p q hij h1' h2' (gπ h3) (gπ h4) h5 h6
      · simp [Blk.isLive] at h6
    · simp [Blk.isMut] at h5

theorem pi_none {H : List Blk} (hI : Inv out B w π H) : ∀ q, π[H.length]? ≠ some (some q) := by
  intro q h; have := getElem?_lt h; have := hI.len; omega

theorem Rep.ext {w' : World} {π' : List (Option PB)} {H H' : List Blk} {slots : List AV} {a : Act} (hd : a.defers = []) (hs : RvL w (muOf out π H) π slots a.tmps.toList) (hE : Ext B w w' (muOf out π H) (muOf out π' H') π π') (hI : Inv out B w' π' H')
    {dst : Option Tmp} {A : AV} {v : Value} (hA : Rv w' (muOf out π' H') π' A v) : Rep out B w' π' ⟨putA slots dst A, H'⟩ (a.put dst v) :=
  ⟨by rw [put_defers]; exact hd, put_sound (RvL.ext hE _ _ hs) hA, hI⟩

/-- One operation in the text's order. -/
theorem stepA_sound (hng : NoNG P) {call : CallF} (hcall : CallsOk P call) {ops : Array Oper} {o : Oper} {st st' : St} {oe : Option Ent} {a : Act} (hR : Rep out B w π st a) (h : stepA P call ops.toList o st = some (st', oe))
    {K : Act → World → Prop} {Q : Exit → Act → World → Prop}
    (hK : ∀ a' w' π', Rep out B w' π' st' a' → Ext B w w' (muOf out π st.heap) (muOf out π' st'.heap) π π' → K a' w') :
    if Region.wanted o (yielded ops a.tmps) then o.wp P a w K Q ∨ (o.asks P a w ∧ LetsOut Q) else K (a.put o.dst undef) w := by
  unfold stepA at h
  split at h
  · rename_i hw
    rw [if_pos (wantedA_sound hR.slots hw)]
    refine .inl ?_
    unfold Oper.wp
    split at h
    · rename_i v hv
      rw [putK_eq] at h
      cases h
      obtain ⟨nx, u, h1, h2, h3⟩ := evalOp_sound hng hR.inv (Nat.le_refl _) (pi_none hR.inv) (evA_sound hR.slots) hv
      rw [h1]
      rcases h2 with rfl | ⟨rfl, rfl⟩
      · exact hK _ _ π (Rep.ext hR.defers hR.slots (Ext.refl _ _ _) hR.inv h3) (Ext.refl _ _ _)
      · exact hK _ _ π (Rep.ext hR.defers hR.slots (Ext.refl _ _ _) hR.inv h3) (Ext.refl _ _ _)
    · rename_i v ws hv
      rw [putK_eq] at h
      cases h
      obtain ⟨nx, u, w', π', h1, h2, h3, h4, h5, _⟩ := evalOp_sound hng hR.inv (Nat.le_refl _) (pi_none hR.inv) (evA_sound hR.slots) hv
      rw [h1]
      rcases h2 with rfl | ⟨rfl, rfl⟩
      · exact hK _ _ π' (Rep.ext hR.defers hR.slots h3 h4 h5) h3
      · exact hK _ _ π' (Rep.ext hR.defers hR.slots h3 h4 h5) h3
    · rename_i f args hv
      obtain ⟨vs, h1, h2⟩ := evalOp_sound hng hR.inv (Nat.le_refl _) (pi_none hR.inv) (evA_sound hR.slots) hv
      rw [h1]
      simp only [Oper.upon]
      split at h
      · rename_i v ws rd n hc
        rw [putK_eq] at h
        cases h
        obtain ⟨hI1, hE1⟩ := hR.inv.extend n
        have hl := hR.inv.len
        have := hcall _ _ _ _ hc (st.heap ++ deads n) (by simp [deads]) (fun b _ hlt => by rw [List.getElem?_append_left hlt]) out B w (π ++ List.replicate n none) vs.toList hI1 (fun j h1 _ q hq => by
              rw [List.getElem?_append_right (by omega)] at hq
              have := List.mem_of_getElem? hq
              simp at this) (RvL.ext hE1 _ _ h2)
        rw [Array.toArray_toList] at this
        refine this.mono ?_
        rintro e w'' ⟨u, π', rfl, g1, g2, g3, _⟩
        exact hK _ _ π' (Rep.ext hR.defers (RvL.ext hE1 _ _ hR.slots) g1 g2 g3) (hE1.trans g1)
      · rename_i v H' hc
        rw [putK_eq] at h
        cases h
        have := hcall _ _ _ _ hc out B w π vs.toList hR.inv h2
        rw [Array.toArray_toList] at this
        refine this.mono ?_
        rintro e w'' ⟨u, π', rfl, g1, g2, g3⟩
        exact hK _ _ π' (Rep.ext hR.defers hR.slots g1 g2 g3) g1
      · cases h
    · cases h
  · rename_i hw
    rw [wantedA_sound hR.slots hw]
    simp only [Bool.false_eq_true, if_false]
    rw [putK_eq] at h
    cases h
    exact hK _ _ π (Rep.ext hR.defers hR.slots (Ext.refl _ _ _) hR.inv rfl) (Ext.refl _ _ _)
  · cases h
end
end Go.Eng
