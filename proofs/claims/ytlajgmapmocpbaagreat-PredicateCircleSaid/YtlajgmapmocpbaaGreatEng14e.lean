/- The engine, part 14: calls are right. -/
import Derived.Test.YtlajgmapmocpbaaGreatEng13e
set_option linter.unusedSimpArgs false
set_option linter.unusedVariables false
namespace Go.Eng
open Go Go.RowKit

/-- What a function that is answered from outside must do. -/
def ExtOk (P : Program) (f : FuncId) (F : List AV → Option AV) : Prop :=
  ∀ args r, F args = some r → ∀ (out : Nat → Prop) (w : World) (vs : List Value), (∀ b, out b → b < w.heap.size) → RvL w out [] args vs →
    Calls P f vs.toArray w fun e w' => ∃ u, e = .returned u ∧ Ext (Lo w.heap.size) w w' out out [] [] ∧ Rv w' out [] r u

section
variable {P : Program} {out : Nat → Prop} {B : Nat → Prop} {w w' : World} {π πG : List (Option PB)} {H H' G : List Blk}

theorem muOf_nil : muOf out [] [] = out := by
  funext b
  apply propext
  constructor
  · rintro (h | ⟨i, x, p, h, _⟩)
    · exact h
    · simp at h
  · exact .inl

theorem muOf_lt (hI : Inv out B w π H) : ∀ b, muOf out π H b → b < w.heap.size := by
  rintro b (h | ⟨i, x, p, h1, h2, h3, h4⟩)
  · exact hI.bound _ (hI.out_lt b h)
  · have := hI.base i x p h1 h3 (Blk.live_of_mut h2); omega

theorem Ext.mu_mono (hI : Inv out B w π H) {π' : List (Option PB)} {mu : Nat → Prop} (hE : Ext B w w mu (muOf out π H) π' π) : ∀ b, muOf out π H b → mu b := by
  intro b hb
  by_cases h : mu b
  · exact h
  · exact ((hE.keep b (muOf_lt hI b hb) h).2 hb).elim

/-- A callee's answer, brought home. -/
theorem bring_sound {l : List Nat} {n : Nat} {r v : AV} {ws : List (Nat × Blk)} {rd : List Nat} {m : Nat} (hb : bringA n l H G r = some (.loc v ws rd m))
    (hlen : H.length + m ≤ H'.length) (hag : ∀ b ∈ rd, b < H.length → H'[b]? = H[b]?) (hI : Inv out B w π H') (hπ : ∀ j, H.length ≤ j → j < H.length + m → ∀ q, π[j]? ≠ some (some q))
    {u : Value} (hE : Ext (Lo w.heap.size) w w' (muOf out π (updAll H' (freezeW H l))) (muOf (muOf out π (updAll H' (freezeW H l))) πG G) [] πG) (hG : Inv (muOf out π (updAll H' (freezeW H l))) (Lo w.heap.size) w' πG G)
    (hr : Rv w' (muOf (muOf out π (updAll H' (freezeW H l))) πG G) πG r u) :
    ∃ π', Ext B w w' (muOf out π H') (muOf out π' (updAll H' ws)) π π' ∧ Inv out B w' π' (updAll H' ws) ∧ Rv w' (muOf out π' (updAll H' ws)) π' v u ∧ ∀ j, (∀ b, (j, b) ∉ ws) → π'[j]? = π[j]? := by
  unfold bringA at hb
  split at hb
  · rename_i hnr
    cases hb
    obtain ⟨g1, g2⟩ := hI.past (w' := w') (fun b hb => hE.low b hb) hE.size hE.os hE.tape hE.output
    exact ⟨π, g2, g1, noRef_any _ _ hnr hr, fun _ _ => rfl⟩
  · simp only at hb
    split at hb
    · rename_i new r' hnd hnew hren
      cases hb
      generalize hσ : List.foldl insNat [] ((idsOf r).filter fun b => isOwnB G[b]?) = σ at *
      obtain ⟨hfI, hfE, hfl, hf1, hf2⟩ := freezeW_sound l H' H hI (fun b hb hlt => .inl (hag b hb hlt))
      generalize hHf : updAll H' (freezeW H l) = Hf at *
      obtain ⟨hnl, hng⟩ := bringL_get σ new hnew
      rw [updAll_app, hHf]
      obtain ⟨e1, e2, e3⟩ := numbered_get new H.length Hf (by omega)
      have hπl := hfI.len
      -- the places
      have hpsl : (σ.map fun b => (πG[b]?).getD none).length = new.length := by simp [hnl]
      generalize hps : (σ.map fun b => (πG[b]?).getD none) = ps at *
      have ol := over_length (l := π) (ps := ps) (n := H.length) (by omega)
      have oi := fun j (hj : j < ps.length) => over_in (l := π) (ps := ps) (n := H.length) (j := j) (by omega) hj
      have oo := fun j (hj : j < H.length ∨ H.length + ps.length ≤ j) => over_off (l := π) (ps := ps) (n := H.length) (j := j) (by omega) hj
      generalize hπ' : over π H.length ps = π' at *
      generalize hH'' : updAll Hf (numbered H.length new) = H'' at *
      have hps_get : ∀ (k : Nat) (p : PB), ps[k]? = some (some p) → ∃ b, σ[k]? = some b ∧ πG[b]? = some (some p) := by
        intro k p h
        rw [← hps, List.getElem?_map] at h
        cases hk : σ[k]? with
        | none => rw [hk] at h; cases h
        | some b =>
          rw [hk] at h
          refine ⟨b, rfl, ?_⟩
          cases hb : πG[b]? with
          | none => simp [hb] at h
          | some q => simpa [hb] using h
      have hpre : ∀ (i : Nat) (p : PB), π[i]? = some (some p) → π'[i]? = some (some p) := by
        intro i p h
        rw [oo i]
        · exact h
        · by_cases hi : H.length ≤ i ∧ i < H.length + new.length
          · exact (hπ i hi.1 hi.2 p h).elim
          · omega
      -- one of ours, or one of the callee's
      have key : ∀ (j : Nat) (x : Blk) (p : PB), H''[j]? = some x → π'[j]? = some (some p) → (Hf[j]? = some x ∧ π[j]? = some (some p)) ∨
          ∃ k b cs cs', j = H.length + k ∧ σ[k]? = some b ∧ πG[b]? = some (some p) ∧ G[b]? = some (.own cs) ∧ mapO (snapA G (fun b => !σ.contains b) n) cs = some cs' ∧ x = .own cs' := by
        intro j x p h1 h2
        by_cases hj : j < H.length ∨ H.length + new.length ≤ j
        · rw [e3 j hj] at h1
          rw [oo j (by omega)] at h2
          exact .inl ⟨h1, h2⟩
        · obtain ⟨k, rfl⟩ : ∃ k, j = H.length + k := ⟨j - H.length, by omega⟩
          rw [oi k (by omega)] at h2
          obtain ⟨b, hb1, hb2⟩ := hps_get k p h2
          obtain ⟨cs, cs', g1, g2, g3⟩ := hng k b hb1
          rw [e2 k (by omega), g3] at h1
          simp only [Option.map_some, Option.some.injEq] at h1
          exact .inr ⟨k, b, cs, cs', rfl, hb1, hb2, g1, g2, h1.symm⟩
      have hmuG : ∀ b, muOf out π' H'' b → muOf (muOf out π Hf) πG G b := by
        rintro b (h | ⟨i, x, p, h1, h2, h3, h4⟩)
        · exact .inl (.inl h)
        · rcases key i x p h1 h3 with ⟨g1, g2⟩ | ⟨k, b', cs, cs', _, _, g3, g4, _, _⟩
          · exact .inl (.inr ⟨i, x, p, g1, h2, g2, h4⟩)
          · exact .inr ⟨b', .own cs, p, g4, rfl, g3, h4⟩
      have hL : Look w' (muOf (muOf out π Hf) πG G) (muOf out π' H'') πG G (fun b => !σ.contains b) := by
        intro b p cs hok hbl hp
        refine ⟨blk_cells hG hbl hp, ?_⟩
        have hlive : ∃ y, G[b]? = some y ∧ y.isLive = true := by rcases hbl with h | h <;> exact ⟨_, h, rfl⟩
        obtain ⟨y, hy, hyl⟩ := hlive
        have hge := (hG.base b y p hy hp hyl).1
        rintro (h | ⟨i, x, q, h1, h2, h3, h4⟩)
        · exact hge (hfI.bound _ (hfI.out_lt _ h))
        · rcases key i x q h1 h3 with ⟨g1, g2⟩ | ⟨k, b', cs', cs'', _, g2, g3, g4, _, _⟩
          · exact hge (h4 ▸ (hfI.base i x q g1 g2 (Blk.live_of_mut h2)).2)
          · refine hG.sep b' b (.own cs') y q p ?_ g4 hy g3 hp rfl hyl h4
            rintro rfl
            have := List.mem_of_getElem? g2
            simp [this] at hok
      obtain ⟨hA, hAE⟩ := hfI.adoptAll (w' := w') (π' := π') (H' := H'') (fun b hb => hE.low b hb) hE.size hE.os hE.tape hE.output (by omega) hpre (by
        intro j x p h1 h2
        rcases key j x p h1 h2 with h | ⟨k, b, cs, cs', rfl, g1, g2, g3, g4, rfl⟩
        · exact .inl h
        · refine .inr ?_
          obtain ⟨hb1, hb2⟩ := hG.base b _ p g3 g2 rfl
          have hb1 := Nat.le_of_not_lt hb1
          refine ⟨hb1, hb2, ?_, fun _ => ?_⟩
          · intro i y q hij k1 k2 k3
            rcases key i y q k1 k2 with ⟨m1, m2⟩ | ⟨k', b', ds, ds', rfl, m1, m2, m3, m4, rfl⟩
            · have := (hfI.base i y q m1 m2 k3).2; omega
            · have hne : b' ≠ b := nodupB_ne σ hnd k' k b' b (by omega) m1 g1
              exact hG.sep b' b _ _ q p hne m3 g3 m2 g2 rfl rfl
          · obtain ⟨o1, o2⟩ := hG.ok b _ p g3 g2
            exact ⟨o1, (mapO_RvC (fun A v A' hA hA' => snapA_sound hL hmuG _ A A' v hA hA') cs cs' _ _ o2 g4).1.lift⟩)
      refine ⟨π', hfE.trans hAE, hA, ?_, fun j hj => oo j ?_⟩
      · refine renA_sound hL hmuG (ρ := fun b => findAt σ b H.length) ?_ n r v u hr hren
        intro b c hbc p hp
        obtain ⟨k, hk, rfl⟩ := findAt_some σ b H.length c hbc
        have hkl : k < σ.length := getElem?_lt hk
        rw [oi k (by omega), ← hps, List.getElem?_map, hk]
        simp [hp]
      · by_cases hlt : j < H.length ∨ H.length + new.length ≤ j
        · omega
        · obtain ⟨k, rfl⟩ : ∃ k, j = H.length + k := ⟨j - H.length, by omega⟩
          obtain ⟨b, hb⟩ := numbered_mem new H.length k (by omega)
          exact (hj b (List.mem_append_right _ hb)).elim
    · cases hb

/-- Whole runs are right. -/
theorem evalCall_sound (hng : NoNG P) (hm : P.follows .mixedOrders = true) {inl : FuncId → Bool} {ext : FuncId → Option (List AV → Option AV)} (hext : ∀ f F, ext f = some F → ExtOk P f F) :
    ∀ n, CallsOk P (evalCall P inl ext n)
  | 0, f, args, H, r, h => by simp [evalCall] at h
  | n + 1, f, args, H, r, h => by
    have ih := evalCall_sound (inl := inl) hng hm hext n
    unfold evalCall at h
    split at h
    · cases h
    · rename_i fn hfn
      split at h
      · split at h
        · rename_i v H1 hv
          cases h
          intro out B w π vs hI ha
          exact evalBody_sound hng hm ih hfn hv hI ha
        · cases h
      · simp only at h
        generalize hl : reach H n ((idsOfL args).foldl insNat []) = l at *
        split at h
        · cases h
        · rename_i args' hargs
          have core : ∀ (G : List Blk) (r0 : AV), bringA n l H G r0 = some r →
              (∀ (out : Nat → Prop) (w : World) (vs : List Value), (∀ b, out b → b < w.heap.size) → RvL w out [] args' vs →
                Calls P f vs.toArray w fun e w' => ∃ u πG, e = .returned u ∧ Ext (Lo w.heap.size) w w' out (muOf out πG G) [] πG ∧ Inv out (Lo w.heap.size) w' πG G ∧ Rv w' (muOf out πG G) πG r0 u) → CallOk P f args H r := by
            intro G r0 hbr hrun
            cases r with
            | whole v H1 => 
              unfold bringA at hbr
              split at hbr
              · cases hbr
              · simp only at hbr
                split at hbr <;> cases hbr
            | loc v ws rd m =>
              have hrd : rd = l := by
                unfold bringA at hbr
                split at hbr
                · cases hbr; rfl
                · simp only at hbr
                  split at hbr
                  · cases hbr; rfl
                  · cases hbr
              subst hrd
              intro H' hlen hag out B w π vs hI hπ ha
              obtain ⟨hfI, hfE, hfl, hf1, hf2⟩ := freezeW_sound rd H' H hI (fun b hb hlt => .inl (hag b hb hlt))
              have hmu := Ext.mu_mono hfI hfE
              have hL : Look w (muOf out π H') (muOf out π (updAll H' (freezeW H rd))) π H (fun b => rd.contains b) := by
                intro b p cs hok hbl hp
                have hbm : b ∈ rd := by simpa using hok
                have hblt : b < H.length := by rcases hbl with h | h <;> exact getElem?_lt h
                have hbl' : H'[b]? = some (.own cs) ∨ H'[b]? = some (.fix cs) := by rw [hag b hbm hblt]; exact hbl
                refine ⟨blk_cells hI hbl' hp, ?_⟩
                have hlive : ∃ y, H'[b]? = some y ∧ y.isLive = true := by rcases hbl' with h | h <;> exact ⟨_, h, rfl⟩
                obtain ⟨y, hy, hyl⟩ := hlive
                have hge := hI.base b y p hy hp hyl
                have hfx : (updAll H' (freezeW H rd))[b]? = some (.fix cs) := by
                  rcases hbl with h | h
                  · exact hf1 b hbm cs h
                  · rw [hf2 b (fun cs' _ h' => by rw [h] at h'; cases h'), hag b hbm hblt]; exact h
                rintro (h | ⟨i, x, q, h1, h2, h3, h4⟩)
                · exact hge.1 (hI.out_lt _ h)
                · by_cases hib : i = b
                  · subst hib; rw [hfx] at h1; cases h1; simp [Blk.isMut] at h2
                  · exact hfI.sep i b x (.fix cs) q p hib h1 hfx h3 hp h2 rfl h4
              have ha' : RvL w (muOf out π (updAll H' (freezeW H rd))) [] args' vs := mapO_RvL (fun A v A' hA hA' => snapA_sound hL hmu n A A' v hA hA') args args' vs ha hargs
              refine (hrun _ w vs (muOf_lt hfI) ha').mono ?_
              rintro e w' ⟨u, πG, rfl, k1, k2, k3⟩
              obtain ⟨π', q1, q2, q3, q4⟩ := bring_sound hbr hlen hag hI hπ k1 k2 k3
              exact ⟨u, π', rfl, q1, q2, q3, q4⟩
          split at h
          · rename_i F hF
            split at h
            · rename_i r0 hr0
              split at h
              · refine core [] r0 h ?_
                intro out w vs hout ha
                refine (hext f F hF args' r0 hr0 out w vs hout ha).mono ?_
                rintro e w' ⟨u, rfl, k1, k2⟩
                refine ⟨u, [], rfl, ?_, ⟨rfl, fun b hb => Nat.lt_of_lt_of_le hb k1.size, hout, by simp, by simp, by simp⟩, ?_⟩
                · rw [muOf_nil]; exact k1
                · rw [muOf_nil]; exact k2
              · cases h
            · cases h
          · split at h
            · rename_i r0 G hr0
              refine core G r0 h ?_
              intro out w vs hout ha
              have hI0 : Inv out (Lo w.heap.size) w [] [] := ⟨rfl, fun _ h => h, hout, by simp, by simp, by simp⟩
              have := evalBody_sound hng hm ih hfn hr0 hI0 (by rw [muOf_nil]; exact ha)
              rw [muOf_nil] at this
              exact this
            · cases h
end
end Go.Eng
