/- The engine, part 4: evalOp is right. -/
import Derived.Test.YtlajgmapmocpbaaGreatEng3e
import Derived.Laws.Cover3
import Derived.Laws.Pointers
set_option linter.unusedSimpArgs false
set_option linter.unusedVariables false
namespace Go.Eng
open Go Go.RowKit

/-- What an operation's answer promises of its run. -/
def OSound (P : Program) (out : Nat → Prop) (B : Nat → Prop) (w : World) (π : List (Option PB)) (H : List Blk) (s : Sem Next) : ORes → Prop
  | .pure A => ∃ nx v, s.run P w = .ok nx w ∧ (nx = .value v ∨ nx = .skip ∧ v = undef) ∧ Rv w (muOf out π H) π A v
  | .eff A ws => ∃ nx v w' π', s.run P w = .ok nx w' ∧ (nx = .value v ∨ nx = .skip ∧ v = undef) ∧ Ext B w w' (muOf out π H) (muOf out π' (updAll H ws)) π π' ∧ Inv out B w' π' (updAll H ws) ∧ Rv w' (muOf out π' (updAll H ws)) π' A v ∧ ∀ j, (∀ b, (j, b) ∉ ws) → π'[j]? = π[j]?
  | .call f args => ∃ vs, s.run P w = .ok (.enter f vs) w ∧ RvL w (muOf out π H) π args vs.toList

section
variable {P : Program} {out : Nat → Prop} {B : Nat → Prop} {w : World} {π : List (Option PB)} {H : List Blk}

theorem OSound.value {s : Sem Value} {A : AV} {v : Value} (h : s.run P w = .ok v w) (hA : Rv w (muOf out π H) π A v) : OSound P out B w π H (do pure (.value (← s))) (.pure A) :=
  ⟨.value v, v, by simp [h], .inl rfl, hA⟩

theorem ofP_sound {s : Sem Next} {o : Option AV} {r : ORes} (h : ORes.ofP o = some r) (hs : ∀ A, o = some A → OSound P out B w π H s (.pure A)) : OSound P out B w π H s r := by
  cases o with
  | none => cases h
  | some A => cases h; exact hs A rfl

theorem optV_sound {A : AV} {v : Value} {f : Value → Option Value} {s : Sem Value} {r : ORes} (hA : Rv w (muOf out π H) π A v) (hf : ∀ x y, v = x → f x = some y → s.run P w = .ok y w) (h : optV f A = some r) :
    OSound P out B w π H (do pure (.value (← s))) r := by
  unfold optV at h
  split at h
  · rename_i x hx
    split at h
    · rename_i y hy
      cases h
      exact OSound.value (hf x y (toV_sound A v x hA hx) hy) rfl
    · cases h
  · cases h

theorem pick_sound {t : Bool} {A B' : AV} {a b : Value} (hA : Rv w (muOf out π H) π A a) (hB : Rv w (muOf out π H) π B' b) : Rv w (muOf out π H) π (pickA t A B') (if t then a else b) := by
  unfold pickA
  split
  · cases hA; cases hB; cases t <;> rfl
  · cases t
    · exact hB
    · exact hA

theorem intA_sound {mu : Nat → Prop} {A : AV} {v : Value} {n : Int} (h : Rv w mu π A v) (hi : intA A = some n) : ∃ k, v = .int k n := by
  unfold intA at hi; split at hi
  · cases hi; exact ⟨_, h⟩
  · cases hi
theorem kindA_sound {mu : Nat → Prop} {A : AV} {v : Value} {k : IntKind} {n : Int} (h : Rv w mu π A v) (hi : kindA A = some (k, n)) : v = .int k n := by
  unfold kindA at hi; split at hi
  · cases hi; exact h
  · cases hi

theorem plusA_sound {mu : Nat → Prop} {A A' : AV} {v : Value} {n : Nat} (h : Rv w mu π A v) (hp : plusA n A = some A') : ∃ ad : Addr, v = .pointer (some ad) ∧ Rv w mu π A' (.pointer (some (ad.add n))) := by
  unfold plusA at hp
  split at hp
  · cases hp; obtain ⟨p, h1, rfl⟩ := h
    exact ⟨_, rfl, p, h1, by rw [addr_add, Nat.add_assoc]⟩
  · cases hp; obtain ⟨b, o, rfl, h2, h3⟩ := h
    exact ⟨_, rfl, b, o, by rw [addr_add, Nat.add_assoc], h2, h3⟩
  · cases hp

theorem part_sound {mu : Nat → Prop} {t : TypeId} {cs : List AV} {vs : Array Value} {off : Nat} {A : AV} (h : RvL w mu π cs vs.toList) (hp : partA P t cs off = some A) :
    ∃ v, (part t vs off).run P w = .ok v w ∧ Rv w mu π A v := by
  unfold partA at hp
  split at hp
  · rename_i ha
    split at hp
    · rename_i n hn
      cases hp
      refine ⟨.agg (vs.extract off (off + n)), by simp [part, run_agg ha, run_size hn], _, rfl, ?_⟩
      have := RvL.take n _ _ (RvL.drop off _ _ h)
      rw [Array.toList_extract, List.extract_eq_take_drop]
      rwa [show off + n - off = n by omega]
    · cases hp
  · rename_i ha
    obtain ⟨v, h1, h2⟩ := RvL.get _ _ _ _ h hp
    exact ⟨v, by simp [part, run_agg ha, ← Array.getElem?_toList, h1], h2⟩
  · cases hp

theorem fieldA_sound {s : TypeId} {x : AV} {v : Value} {f : Nat} {A : AV} {mu : Nat → Prop} (hx : Rv w mu π x v) (h : fieldA P s x f = some A) : ∃ u, (Instr.field s v f).run P w = .ok u w ∧ Rv w mu π A u := by
  unfold fieldA at h
  split at h
  · rename_i fs cs hu
    split at h
    · rename_i fd hfd
      obtain ⟨vs, rfl, hvs⟩ := hx
      obtain ⟨u, h1, h2⟩ := part_sound hvs h
      exact ⟨u, by simp [Instr.field, run_underlying hu, hfd, asAgg, h1], h2⟩
    · cases h
  · rename_i fs a hu
    split at h
    · rename_i fd hfd
      cases hx
      obtain ⟨u, h1, h2⟩ := part_sound (RvL_map_at a.toList) h
      exact ⟨u, by simp [Instr.field, run_underlying hu, hfd, asAgg, h1], h2⟩
    · cases h
  · cases h

theorem indexA_sound {t : TypeId} {x ix : AV} {v vi : Value} {A : AV} {mu : Nat → Prop} (hx : Rv w mu π x v) (hi : Rv w mu π ix vi) (h : indexA P t x ix = some A) : ∃ u, (Instr.index t v vi).run P w = .ok u w ∧ Rv w mu π A u := by
  unfold indexA at h
  split at h
  · rename_i len e cs i hu he
    split at h
    · rename_i n hn hb
      simp only [Bool.and_eq_true, decide_eq_true_eq] at hb
      obtain ⟨vs, rfl, hvs⟩ := hx
      obtain ⟨k, rfl⟩ := intA_sound hi he
      obtain ⟨u, h1, h2⟩ := part_sound hvs h
      exact ⟨u, by simp [Instr.index, asIntOf, run_underlying hu, hb, run_size hn, h1], h2⟩
    · cases h
  · rename_i len e a i hu he
    split at h
    · rename_i n hn hb
      simp only [Bool.and_eq_true, decide_eq_true_eq] at hb
      cases hx
      obtain ⟨k, rfl⟩ := intA_sound hi he
      obtain ⟨u, h1, h2⟩ := part_sound (RvL_map_at a.toList) h
      exact ⟨u, by simp [Instr.index, asIntOf, run_underlying hu, hb, run_size hn, h1], h2⟩
    · cases h
  · rename_i s i hu he
    have hx' : v = s := hx
    subst hx'
    split at h
    · rename_i j hj
      have := toV_sound ix vi j hi hj
      subst this
      cases hp : pureRun P (Instr.index t v vi) with
      | none => simp [hp] at h
      | some u => simp [hp] at h; subst h; exact ⟨u, pureRun_sound hp w, rfl⟩
    · cases h
  · cases h

theorem fieldAddrA_sound {s : TypeId} {x : AV} {v : Value} {f : Nat} {A : AV} {mu : Nat → Prop} (hx : Rv w mu π x v) (h : fieldAddrA P s x f = some A) : ∃ u, (Instr.fieldAt s v f).run P w = .ok u w ∧ Rv w mu π A u := by
  unfold fieldAddrA at h
  split at h
  · rename_i fs hu
    split at h
    · rename_i fd hfd
      split at h
      · cases h
      · rename_i n hne hn
        obtain ⟨ad, rfl, h2⟩ := plusA_sound hx h
        refine ⟨_, ?_, h2⟩
        have hn0 : ¬ n = 0 := fun e => hne e
        simp [Instr.fieldAt, run_underlying hu, hfd, Instr.sureAddr, fieldPlace, run_size hn, hn0]
      · cases h
    · cases h
  · cases h

theorem indexAddrA_sound {t : TypeId} {x ix : AV} {v vi : Value} {A : AV} {mu : Nat → Prop} (hx : Rv w mu π x v) (hi : Rv w mu π ix vi) (h : indexAddrA P t x ix = some A) : ∃ u, (Instr.indexAt t v vi).run P w = .ok u w ∧ Rv w mu π A u := by
  unfold indexAddrA at h
  split at h
  · rename_i e i hu he
    obtain ⟨k, rfl⟩ := intA_sound hi he
    split at h
    · rename_i n nl cs len hn
      split at h
      · rename_i hb
        simp only [Bool.and_eq_true, decide_eq_true_eq] at hb
        cases h
        rcases hx with ⟨_, h0, _, _⟩ | ⟨b, o, cap, rfl, _, h3, h4⟩ | ⟨h0, _⟩
        rotate_left 2
        · omega
        · omega
        · exact ⟨_, by simp [Instr.indexAt, asIntOf, run_underlying hu, hb, run_size hn]; rfl, b, o, by rw [addr_add], h3, h4⟩
      · cases h
    · rename_i n b off len es hn
      split at h
      · rename_i hb
        simp only [Bool.and_eq_true, decide_eq_true_eq] at hb
        cases h
        rcases hx with ⟨h0, _⟩ | ⟨p, a, cap, h1, rfl, h2, hsp, h3⟩
        · omega
        have h3' := (h3 (by omega)).1
        exact ⟨_, by simp [Instr.indexAt, asIntOf, run_underlying hu, hb, run_size hn]; rfl, p, h1, by rw [h3', addr_add, Nat.add_assoc]⟩
      · cases h
    · cases h
  · rename_i len e i hu he
    obtain ⟨k, rfl⟩ := intA_sound hi he
    split at h
    · rename_i n hn
      split at h
      · rename_i hb
        simp only [Bool.and_eq_true, decide_eq_true_eq] at hb
        obtain ⟨ad, rfl, h2⟩ := plusA_sound hx h
        exact ⟨_, by simp [Instr.indexAt, asIntOf, run_underlying hu, Instr.sureAddr, hb, run_size hn], h2⟩
      · cases h
    · cases h
  · cases h

theorem slice_bounds_sound {mu : Nat → Prop} {isS : Bool} {len cap : Nat} {lo hi : Option AV} {vlo vhi : Option Value} {l h : Nat} (hle : len ≤ cap)
    (hlo : match lo, vlo with | none, none => True | some A, some v => Rv w mu π A v | _, _ => False) (hhi : match hi, vhi with | none, none => True | some A, some v => Rv w mu π A v | _, _ => False)
    (hb : boundsA len lo hi = some (l, h)) : (Instr.sliceBounds isS len cap vlo vhi none).run P w = .ok (l, h, cap) w ∧ l ≤ h ∧ h ≤ len := by
  unfold boundsA at hb
  split at hb
  · rename_i il ih e1 e2
    split at hb
    · rename_i hd
      simp only [Bool.and_eq_true, decide_eq_true_eq] at hd
      cases hb
      obtain ⟨⟨d1, d2⟩, d3⟩ := hd
      refine ⟨?_, by omega, by omega⟩
      cases lo with
      | none =>
        cases vlo with
        | some _ => exact hlo.elim
        | none =>
          cases e1
          cases hi with
          | none =>
            cases vhi with
            | some _ => exact hhi.elim
            | none => cases e2; simp [Instr.sliceBounds]
          | some A =>
            cases vhi with
            | none => exact hhi.elim
            | some v =>
              obtain ⟨k, rfl⟩ := intA_sound hhi e2
              have : ih ≤ (cap : Int) := by omega
              simp [Instr.sliceBounds, Instr.sliceBound, asIntOf, this, d2]
      | some A =>
        cases vlo with
        | none => exact hlo.elim
        | some v =>
          obtain ⟨k, rfl⟩ := intA_sound hlo e1
          cases hi with
          | none =>
            cases vhi with
            | some _ => exact hhi.elim
            | none => cases e2; simp [Instr.sliceBounds, Instr.sliceBound, asIntOf, d1, d2]
          | some A =>
            cases vhi with
            | none => exact hhi.elim
            | some v =>
              obtain ⟨k, rfl⟩ := intA_sound hhi e2
              have h3 : ih ≤ (cap : Int) := by omega
              have h4 : 0 ≤ ih := by omega
              have h5 : (ih.toNat : Int) = ih := Int.toNat_of_nonneg h4
              simp only [Instr.sliceBounds, Instr.sliceBound, asIntOf, Sem.run_bind, Sem.run_pure, Result.andThen_ok, Sem.run_ite, h4, h3, and_self, if_true, d1, h5, d2]
    · cases hb
  · cases hb
end

section
variable {P : Program} {out : Nat → Prop} {B : Nat → Prop} {w : World} {π : List (Option PB)} {H : List Blk}

def optR (w : World) (mu : Nat → Prop) (π : List (Option PB)) (lo : Option AV) (vlo : Option Value) : Prop :=
  match lo, vlo with | none, none => True | some A, some v => Rv w mu π A v | _, _ => False

theorem sliceA_sound (hI : Inv out B w π H) {t : TypeId} {x : AV} {v : Value} {lo hi : Option AV} {vlo vhi : Option Value} {A : AV} (hx : Rv w (muOf out π H) π x v)
    (hlo : optR w (muOf out π H) π lo vlo) (hhi : optR w (muOf out π H) π hi vhi) (h : sliceA P H t x lo hi = some A) : ∃ u, (Instr.sliceAt t v vlo vhi none).run P w = .ok u w ∧ Rv w (muOf out π H) π A u := by
  unfold sliceA at h
  split at h
  · rename_i e hu
    split at h
    · rename_i n nl cs len hn
      split at h
      · rename_i l h' hb
        cases h
        rcases hx with ⟨rfl, rfl, rfl, rfl⟩ | ⟨b, o, cap, rfl, hle, h3, h4⟩ | ⟨rfl, rfl, a, cap, rfl⟩
        · obtain ⟨r, r1, r2⟩ := slice_bounds_sound (P := P) (w := w) (isS := true) (Nat.le_refl 0) hlo hhi hb
          have e1 : h' = 0 := by omega
          have e2 : l = 0 := by omega
          subst e1; subst e2
          exact ⟨.slice none 0 0, by simp [Instr.sliceAt, Instr.slice, run_underlying hu, r, run_size hn], .inl ⟨rfl, rfl, by simp, rfl⟩⟩
        · obtain ⟨r, r1, r2⟩ := slice_bounds_sound (P := P) (w := w) (isS := true) hle hlo hhi hb
          by_cases hc : cap = l
          · have e1 : h' - l = 0 := by omega
            refine ⟨.slice (some ⟨b, o, none⟩) (h' - l) (cap - l), by simp [Instr.sliceAt, Instr.slice, run_underlying hu, r, run_size hn]; exact fun h => (h hc).elim, .inr (.inl ⟨b, o, cap - l, rfl, by omega, ?_, ?_⟩)⟩
            · intro hne; simp [e1] at hne
            · simp [e1, RvC]
          · refine ⟨.slice (some ⟨b, o + l * n, none⟩) (h' - l) (cap - l), by simp [Instr.sliceAt, Instr.slice, run_underlying hu, r, run_size hn, hc, addr_add], .inr (.inl ⟨b, o + l * n, cap - l, rfl, by omega, ?_, ?_⟩)⟩
            · intro hne; exact h3 (by intro e0; subst e0; simp at hne)
            · exact RvC.take _ _ _ _ (RvC.drop _ _ _ _ h4)
        · obtain ⟨r, r1, r2⟩ := slice_bounds_sound (P := P) (w := w) (isS := true) (Nat.zero_le cap) hlo hhi hb
          have e1 : h' = 0 := by omega
          have e2 : l = 0 := by omega
          subst e1; subst e2
          by_cases hc : cap = 0
          · exact ⟨.slice (some a) 0 0, by subst hc; simp [Instr.sliceAt, Instr.slice, run_underlying hu, r, run_size hn], .inr (.inr ⟨rfl, by simp, a, 0, rfl⟩)⟩
          · exact ⟨.slice (some (a.add (0 * n))) 0 cap, by simp [Instr.sliceAt, Instr.slice, run_underlying hu, r, run_size hn, hc], .inr (.inr ⟨rfl, by simp, _, cap, rfl⟩)⟩
      · cases h
    · rename_i n b off len es hn
      split at h
      · rename_i l h' hb hes
        cases h
        obtain rfl : es = n := by simpa using hes
        rcases hx with ⟨rfl, rfl⟩ | ⟨p, a, cap, h1, rfl, h2, hsp, h3⟩
        · obtain ⟨r, r1, r2⟩ := slice_bounds_sound (P := P) (w := w) (isS := true) (Nat.le_refl 0) hlo hhi hb
          have e1 : h' = 0 := by omega
          have e2 : l = 0 := by omega
          subst e1; subst e2
          exact ⟨.slice none 0 0, by simp [Instr.sliceAt, Instr.slice, run_underlying hu, r, run_size hn], .inl ⟨rfl, rfl⟩⟩
        obtain ⟨r, r1, r2⟩ := slice_bounds_sound (P := P) (w := w) (isS := true) h2 hlo hhi hb
        by_cases hc : cap = l
        · refine ⟨.slice (some a) (h' - l) (cap - l), by simp [Instr.sliceAt, Instr.slice, run_underlying hu, r, run_size hn]; exact fun h => (h hc).elim, .inr ⟨p, a, cap - l, h1, rfl, by omega, hsp, by omega⟩⟩
        · have h3' := h3 (by omega)
          refine ⟨.slice (some (a.add (l * es))) (h' - l) (cap - l), by simp [Instr.sliceAt, Instr.slice, run_underlying hu, r, run_size hn, hc], .inr ⟨p, _, cap - l, h1, rfl, by omega, by rw [h3'.1, addr_add], fun _ => ⟨?_, ?_⟩⟩⟩
          · rw [h3'.1, addr_add, Nat.add_assoc]
          · have e0 : (cap - l) * es + l * es = cap * es := by rw [← Nat.add_mul]; congr 1; omega
            omega
      · cases h
    · rename_i n hn
      split at h
      · rename_i lh hb
        cases h
        obtain rfl : v = .slice none 0 0 := hx
        obtain ⟨l, h'⟩ := lh
        obtain ⟨r, r1, r2⟩ := slice_bounds_sound (P := P) (w := w) (isS := true) (Nat.le_refl 0) hlo hhi hb
        have e1 : h' = 0 := by omega
        have e2 : l = 0 := by omega
        subst e1; subst e2
        exact ⟨.slice none 0 0, by simp [Instr.sliceAt, Instr.slice, run_underlying hu, r, run_size hn], rfl⟩
      · cases h
    · cases h
  · rename_i len e hu
    split at h
    · rename_i n b off hn
      split at h
      · rename_i l h' cs hb hH
        split at h
        · rename_i hfit
          simp only [Bool.and_eq_true, decide_eq_true_eq] at hfit
          cases h
          obtain ⟨p, h1, rfl⟩ := hx
          obtain ⟨r, r1, r2⟩ := slice_bounds_sound (P := P) (w := w) (isS := false) (Nat.le_refl len) hlo hhi hb
          obtain ⟨⟨c, e', hheap, hsz⟩, hC⟩ := hI.ok b _ p hH h1
          by_cases hc : len = l
          · refine ⟨.slice (some ⟨p.blk, p.off + off, none⟩) (h' - l) (len - l), by simp [Instr.sliceAt, run_underlying hu, Instr.sureAddr, r, run_size hn]; exact fun h => (h hc).elim, .inr ⟨p, _, len - l, h1, rfl, by omega, rfl, by omega⟩⟩
          · refine ⟨.slice (some ⟨p.blk, p.off + off + l * n, none⟩) (h' - l) (len - l), by simp [Instr.sliceAt, run_underlying hu, Instr.sureAddr, r, run_size hn, hc, addr_add], .inr ⟨p, _, len - l, h1, rfl, by omega, rfl, fun _ => ⟨by rw [Nat.add_assoc], ?_⟩⟩⟩
            have hne : cs ≠ [] := by
              intro e0; subst e0
              have : 0 < len * n := Nat.mul_pos (by omega) hfit.2
              simp at hfit; omega
            have hbd := RvC.bound hC hheap hne
            have e0 : (len - l) * n + l * n = len * n := by rw [← Nat.add_mul]; congr 1; omega
            omega
        · cases h
      · cases h
    · rename_i n cs off hn
      split at h
      · rename_i l h' hb
        cases h
        obtain ⟨b, o, rfl, h3, h4⟩ := hx
        obtain ⟨r, r1, r2⟩ := slice_bounds_sound (P := P) (w := w) (isS := false) (Nat.le_refl len) hlo hhi hb
        by_cases hc : len = l
        · have e1 : h' - l = 0 := by omega
          refine ⟨.slice (some ⟨b, o + off, none⟩) (h' - l) (len - l), by simp [Instr.sliceAt, run_underlying hu, Instr.sureAddr, r, run_size hn]; exact fun h => (h hc).elim, .inr (.inl ⟨b, o + off, len - l, rfl, by omega, ?_, ?_⟩)⟩
          · intro hne; simp [e1] at hne
          · simp [e1, RvC]
        · refine ⟨.slice (some ⟨b, o + off + l * n, none⟩) (h' - l) (len - l), by simp [Instr.sliceAt, run_underlying hu, Instr.sureAddr, r, run_size hn, hc, addr_add], .inr (.inl ⟨b, o + off + l * n, len - l, rfl, by omega, ?_, ?_⟩)⟩
          · intro hne; exact h3 (by intro e0; subst e0; simp at hne)
          · rw [Nat.add_assoc]; exact RvC.take _ _ _ _ (RvC.drop _ _ _ _ h4)
      · cases h
    · cases h
  · cases h

theorem notNil_sound {mu : Nat → Prop} {t : TypeId} {A : AV} {v x : Value} (hA : Rv w mu π A v) (h : notNilA P t A x = true) :
    (binOp .eql t v x).run P w = .ok (.bool false) w ∧ (binOp .neq t v x).run P w = .ok (.bool true) w ∧ ∀ op a b, (eqGuard op t a b v x).run P w = .ok () w := by
  unfold notNilA at h
  split at h
  · rename_i e nl cs len hu
    rcases hA with ⟨h0, h1, _⟩ | ⟨b, o, cap, rfl, _⟩ | ⟨_, _, a, cap, rfl⟩
    · subst h0; subst h1; simp at h
    · have he := run_equal_slice_nil (P := P) w t e (some ⟨b, o, none⟩) len cap hu
      exact ⟨by simp [binOp, he], by simp [binOp, he], fun op a b => by cases op <;> simp [eqGuard]⟩
    · have he := run_equal_slice_nil (P := P) w t e (some a) 0 cap hu
      exact ⟨by simp [binOp, he], by simp [binOp, he], fun op a b => by cases op <;> simp [eqGuard]⟩
  · rename_i e b off len es hu
    rcases hA with ⟨rfl, _⟩ | ⟨p, a, cap, _, rfl, _⟩
    · simp at h
    have he := run_equal_slice_nil (P := P) w t e (some a) len cap hu
    exact ⟨by simp [binOp, he], by simp [binOp, he], fun op a b => by cases op <;> simp [eqGuard]⟩
  · rename_i e b off hu
    obtain ⟨p, _, rfl⟩ := hA
    have he := run_equal_pointer_nil (P := P) w t (some ⟨p.blk, p.off + off, none⟩) (by simp [Program.pointee, hu])
    exact ⟨by simp [binOp, he], by simp [binOp, he], fun op a b => by cases op <;> simp [eqGuard]⟩
  · rename_i e cs off hu
    obtain ⟨b, o, rfl, _⟩ := hA
    have he := run_equal_pointer_nil (P := P) w t (some ⟨b, o + off, none⟩) (by simp [Program.pointee, hu])
    exact ⟨by simp [binOp, he], by simp [binOp, he], fun op a b => by cases op <;> simp [eqGuard]⟩
  · cases h

theorem binSlow_sound {mu : Nat → Prop} {op : BinOp} {t : TypeId} {x y : Operand} {a b : AV} {va vb : Value} {A : AV} (ha : Rv w mu π a va) (hb : Rv w mu π b vb) (h : binSlow P op t x y a b = some A) :
    ∃ u, (do eqGuard op t x y va vb; binOp op t va vb : Sem Value).run P w = .ok u w ∧ Rv w mu π A u := by
  unfold binSlow at h
  split at h
  · rename_i u v hu hv
    have e1 := toV_sound a va u ha hu
    have e2 := toV_sound b vb v hb hv
    subst e1; subst e2
    split at h
    · rename_i r hr
      cases h
      exact ⟨r, pureRun_sound hr w, rfl⟩
    · cases h
  · rename_i v hu hv
    have e2 := toV_sound b vb v hb hv
    subst e2
    split at h
    · rename_i hn
      cases h
      obtain ⟨h1, _, h3⟩ := notNil_sound (P := P) ha hn
      exact ⟨_, by simp [h1, h3], rfl⟩
    · rename_i hn
      cases h
      obtain ⟨_, h1, h3⟩ := notNil_sound (P := P) ha hn
      exact ⟨_, by simp [h1, h3], rfl⟩
    · cases h
  · cases h

theorem aggC_sound {mu : Nat → Prop} {A : AV} {v : Value} {cs : List AV} (h : Rv w mu π A v) (hc : aggC A = some cs) : ∃ vs : Array Value, v = .agg vs ∧ RvL w mu π cs vs.toList := by
  unfold aggC at hc
  split at hc
  · cases hc; exact h
  · cases hc
    cases h
    exact ⟨_, rfl, RvL_map_at _⟩
  · cases hc
theorem eqFs_sound {mu : Nat → Prop} {d' : Nat} {f : TypeId → AV → AV → Option Bool} (hf : ∀ t a b r va vb, f t a b = some r → Rv w mu π a va → Rv w mu π b vb → (Op.equalIn d' t va vb).run P w = .ok r w) {xs ys : List AV} {vs us : Array Value} (hx : RvL w mu π xs vs.toList) (hy : RvL w mu π ys us.toList) :
    ∀ (fs : List Field) (r : Bool), eqFs P f xs ys fs = some r → (Op.eqFields d' vs us fs).run P w = .ok r w
  | [], r, h => by cases h; simp [Op.eqFields]
  | g :: fs, r, h => by
    simp only [eqFs] at h
    simp only [Op.eqFields]
    split at h
    · rename_i hn
      rw [if_neg (by simpa using hn)]
      exact eqFs_sound hf hx hy fs r h
    · rename_i hn
      rw [if_pos (by simpa using hn)]
      split at h
      · rename_i a b ha hb
        obtain ⟨va, a1, a2⟩ := part_sound hx ha
        obtain ⟨vb, b1, b2⟩ := part_sound hy hb
        split at h
        · rename_i r0 s hr hs
          cases h
          have ih := eqFs_sound hf hx hy fs s hs
          simp only [Sem.run_bind, a1, b1, Result.andThen_ok, hf _ a b r0 va vb hr a2 b2]
          cases r0 <;> simp [ih]
        · cases h
      · cases h
theorem eqEl_sound {mu : Nat → Prop} {d' : Nat} {e : TypeId} {f : AV → AV → Option Bool} (hf : ∀ a b r va vb, f a b = some r → Rv w mu π a va → Rv w mu π b vb → (Op.equalIn d' e va vb).run P w = .ok r w) {n : Nat} {xs ys : List AV} {vs us : Array Value} (hx : RvL w mu π xs vs.toList) (hy : RvL w mu π ys us.toList) :
    ∀ (m i : Nat) (r : Bool), eqEl P f e n xs ys m i = some r →
      ((forIn (List.range' i m) ((none, ()) : Option Bool × Unit) fun j _ => do
        let a ← part e vs (j * n)
        let b ← part e us (j * n)
        let c ← Op.equalIn d' e a b
        if (!c) = true then pure (.done (some false, ())) else pure (.yield (none, ())) : Sem (Option Bool × Unit)).run P w) = .ok (if r then (none, ()) else (some false, ())) w
  | 0, i, r, h => by cases h; simp
  | m + 1, i, r, h => by
    simp only [eqEl] at h
    split at h
    · rename_i a b ha hb
      obtain ⟨va, a1, a2⟩ := part_sound hx ha
      obtain ⟨vb, b1, b2⟩ := part_sound hy hb
      split at h
      · rename_i r0 s hr hs
        cases h
        have ih := eqEl_sound hf hx hy m (i + 1) s hs
        simp only [List.range'_succ, List.forIn_cons, Sem.run_bind, a1, b1, Result.andThen_ok, hf a b r0 va vb hr a2 b2]
        cases r0
        · simp
        · simp only [Bool.not_true, Bool.false_eq_true, if_false, Sem.run_pure, Result.andThen_ok, Bool.true_and]
          exact ih
      · cases h
    · cases h
theorem eqAg_sound {mu : Nat → Prop} : ∀ (d d' : Nat) (t : TypeId) (a b : AV) (r : Bool) (va vb : Value), d ≤ d' → eqAg P d t a b = some r → Rv w mu π a va → Rv w mu π b vb → (Op.equalIn d' t va vb).run P w = .ok r w
  | 0, _, _, _, _, _, _, _, _, h, _, _ => by cases h
  | d + 1, 0, _, _, _, _, _, _, hd, _, _, _ => by omega
  | d + 1, d' + 1, t, a, b, r, va, vb, hd, h, ha, hb => by
    simp only [eqAg] at h
    split at h
    · rename_i k0 hu
      split at h
      · rename_i k x k' y
        split at h
        · rename_i hk
          cases h
          obtain rfl := IntKind.beqA_eq hk
          cases ha; cases hb
          exact run_equalIn_int w d' t _ _ x y hu
        · cases h
      · cases h
    · rename_i hu
      split at h
      · cases h; cases ha; cases hb
        exact run_equalIn_bool' w d' t _ _ hu
      · cases h
    · rename_i fs hu
      split at h
      · rename_i xs ys hs hx hy
        obtain ⟨vs, rfl, h1⟩ := aggC_sound ha hx
        obtain ⟨us, rfl, h2⟩ := aggC_sound hb hy
        have hfs : P.fieldsOf t = fs := by unfold Program.fieldsOf; rw [hu]
        rw [run_equalIn_struct w d' t vs us (by rw [hfs]; exact hu) hs, hfs]
        exact eqFs_sound (fun t a b r va vb h ha hb => eqAg_sound d d' t a b r va vb (by omega) h ha hb) h1 h2 _ r h
      · cases h
    · rename_i n e hu
      split at h
      · rename_i k xs ys hs hx hy
        obtain ⟨vs, rfl, h1⟩ := aggC_sound ha hx
        obtain ⟨us, rfl, h2⟩ := aggC_sound hb hy
        have key := eqEl_sound (n := k) (fun a b r va vb h ha hb => eqAg_sound d d' e a b r va vb (by omega) h ha hb) h1 h2 n 0 r h
        simp only [Op.equalIn, Sem.run_bind, run_underlying hu, Result.andThen_ok, run_size hs, Std.Legacy.Range.forIn_eq_forIn_range', Std.Legacy.Range.size, Nat.sub_zero, Nat.add_sub_cancel, Nat.div_one]
        rw [key]
        cases r <;> simp
      · cases h
    · cases h
theorem eqAgOp_sound {mu : Nat → Prop} {op : BinOp} {t : TypeId} {x y : Operand} {a b : AV} {va vb : Value} {A : AV} (ha : Rv w mu π a va) (hb : Rv w mu π b vb) (h : eqAgOp P op t a b = some A) :
    ∃ u, (do eqGuard op t x y va vb; binOp op t va vb : Sem Value).run P w = .ok u w ∧ Rv w mu π A u := by
  unfold eqAgOp at h
  split at h
  · rename_i xs ys hg hx hy
    obtain ⟨vs, rfl, _⟩ := aggC_sound ha hx
    obtain ⟨us, rfl, _⟩ := aggC_sound hb hy
    split at h
    · rename_i r hr
      cases h
      refine ⟨.bool r, ?_, rfl⟩
      simp only [Sem.run_bind, run_eqGuard_agg w .eql t x y vs us hg, Result.andThen_ok, run_eql_struct, eqAg_sound 8 10000 t a b r _ _ (by omega) hr ha hb]
    · cases h
  · rename_i xs ys hg hx hy
    obtain ⟨vs, rfl, _⟩ := aggC_sound ha hx
    obtain ⟨us, rfl, _⟩ := aggC_sound hb hy
    split at h
    · rename_i r hr
      cases h
      refine ⟨.bool (!r), ?_, rfl⟩
      simp only [Sem.run_bind, run_eqGuard_agg w .neq t x y vs us hg, Result.andThen_ok, run_neq_struct, eqAg_sound 8 10000 t a b r _ _ (by omega) hr ha hb]
    · cases h
  · cases h

theorem binOpA_sound {mu : Nat → Prop} {op : BinOp} {t : TypeId} {x y : Operand} {a b : AV} {va vb : Value} {A : AV} (ha : Rv w mu π a va) (hb : Rv w mu π b vb) (h : binOpA P op t x y a b = some A) :
    ∃ u, (do eqGuard op t x y va vb; binOp op t va vb : Sem Value).run P w = .ok u w ∧ Rv w mu π A u := by
  unfold binOpA at h
  split at h
  · rename_i k m k' n
    split at h
    · rename_i hk
      obtain rfl := IntKind.beqA_eq hk
      split at h
      · rename_i r hr
        cases h; cases ha; cases hb
        exact ⟨r, intOpA_sound hr w, rfl⟩
      · exact binSlow_sound ha hb h
    · exact binSlow_sound ha hb h
  · exact eqAgOp_sound ha hb h
  · exact eqAgOp_sound ha hb h
  · exact binSlow_sound ha hb h

theorem convA_sound {mu : Nat → Prop} {src dst : TypeId} {a : AV} {v u : Value} (ha : Rv w mu π a v) (h : convA P src dst a = some u) : (convert src dst v).run P w = .ok u w := by
  unfold convA at h
  split at h
  · split at h
    · rename_i d k hs hd
      cases h; cases ha
      simp [convert, run_underlying hs, run_underlying hd, Conv.intToInt, wrapF_eq]
    · cases h
  · cases h
end
end Go.Eng
