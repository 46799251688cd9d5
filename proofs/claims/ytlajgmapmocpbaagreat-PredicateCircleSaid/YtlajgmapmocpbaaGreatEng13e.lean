/- The engine, part 13: calls are right. -/
import Derived.Test.YtlajgmapmocpbaaGreatEng12e
set_option linter.unusedSimpArgs false
set_option linter.unusedVariables false
namespace Go.Eng
open Go Go.RowKit

section
variable {w : World} {mu mu' : Nat → Prop} {π π' : List (Option PB)}

theorem mapO_RvC {f : AV → Option AV} (hf : ∀ A v A', Rv w mu π A v → f A = some A' → Rv w mu' π' A' v) : ∀ (cs cs' : List AV) (b o : Nat), RvC w mu π cs b o → mapO f cs = some cs' → RvC w mu' π' cs' b o ∧ cs'.length = cs.length
  | [], cs', b, o, _, h => by cases h; exact ⟨trivial, rfl⟩
  | c :: cs, cs', b, o, hc, h => by
    simp only [mapO] at h
    split at h
    · rename_i y ys hy hys
      cases h
      obtain ⟨⟨v, h1, h2, h3⟩, h4⟩ := hc
      obtain ⟨i1, i2⟩ := mapO_RvC hf cs ys b (o + 1) h4 hys
      exact ⟨⟨⟨v, h1, h2, hf c v y h3 hy⟩, i1⟩, by simp [i2]⟩
    · cases h
theorem mapO_RvL {f : AV → Option AV} (hf : ∀ A v A', Rv w mu π A v → f A = some A' → Rv w mu' π' A' v) : ∀ (cs cs' : List AV) (vs : List Value), RvL w mu π cs vs → mapO f cs = some cs' → RvL w mu' π' cs' vs
  | [], cs', vs, hv, h => by cases h; cases hv; rfl
  | c :: cs, cs', vs, hv, h => by
    simp only [mapO] at h
    split at h
    · rename_i y ys hy hys
      cases h
      obtain ⟨v, vs', rfl, h3, h4⟩ := hv
      exact ⟨v, vs', rfl, hf c v y h3 hy, mapO_RvL hf cs ys vs' h4 hys⟩
    · cases h

/-- Fewer places are written than before. -/
theorem Ext.less (h : ∀ b, mu' b → mu b) : Ext (fun _ => False) w w mu mu' π π := ⟨fun _ _ => rfl, Nat.le_refl _, fun b _ hb => ⟨rfl, fun hb' => hb (h b hb')⟩, fun _ _ h => h, rfl, rfl, rfl⟩

/-- What may be looked into: its cells, and that none of them is written. -/
def Look (w : World) (mu mu' : Nat → Prop) (π : List (Option PB)) (H : List Blk) (ok : Nat → Bool) : Prop :=
  ∀ (b : Nat) (p : PB) (cs : List AV), ok b = true → (H[b]? = some (.own cs) ∨ H[b]? = some (.fix cs)) → π[b]? = some (some p) → RvC w mu π cs p.blk p.off ∧ ¬ mu' p.blk

theorem snapA_sound {H : List Blk} {ok : Nat → Bool} (hL : Look w mu mu' π H ok) (hmu : ∀ b, mu' b → mu b) : ∀ (n : Nat) (A A' : AV) (v : Value), Rv w mu π A v → snapA H ok n A = some A' → Rv w mu' [] A' v := by
  have hE : Ext (fun _ => False) w w mu mu' [] [] := Ext.less hmu
  intro n
  induction n with
  | zero =>
    intro A A' v hA h
    cases A <;> simp only [snapA] at h
    case unk => cases h; trivial
    case «at» => cases h; exact hA
    case sl nl cs len => cases h; exact Rv.ext hE (.sl nl cs len) v hA
    case pp cs off => cases h; exact Rv.ext hE (.pp cs off) v hA
    all_goals cases h
  | succ n ih =>
    intro A A' v hA h
    cases A <;> simp only [snapA] at h
    case unk => cases h; trivial
    case «at» => cases h; exact hA
    case sl nl cs len => cases h; exact Rv.ext hE (.sl nl cs len) v hA
    case pp cs off => cases h; exact Rv.ext hE (.pp cs off) v hA
    case hs b off len es =>
      split at h
      · rename_i cs m hok hsc
        split at h
        · rename_i cs' hcs'
          cases h
          rcases hA with ⟨rfl, rfl⟩ | ⟨p, a, cap, h1, rfl, h2, hsp, h3⟩
          · have : cs = [] ∧ m = 0 := by
              simp only [sliceCells] at hsc
              split at hsc
              · split at hsc
                · cases hsc; simp
                · cases hsc
              · split at hsc
                · cases hsc; simp
                · cases hsc
              · cases hsc
            obtain ⟨rfl, rfl⟩ := this
            cases hcs'
            exact .inl ⟨rfl, rfl, rfl, rfl⟩
          obtain ⟨ab, ao, asp⟩ := a
          simp only at hsp; subst hsp
          have key : ∀ c : List AV, (H[b]? = some (.own c) ∨ H[b]? = some (.fix c)) → off + len * es ≤ c.length → cs = (c.drop off).take (len * es) → m = len → Rv w mu' [] (.sl true cs' m) (.slice (some ⟨ab, ao, none⟩) len cap) := by
            intro c hc hle e1 e2
            subst e1; subst e2
            obtain ⟨g1, g2⟩ := hL b p c hok hc h1
            have hr := RvC.take (m * es) _ _ _ (RvC.drop off c _ _ g1)
            obtain ⟨k1, k2⟩ := mapO_RvC (fun A v A' hA hA' => ih A A' v hA hA') _ cs' _ _ hr hcs'
            by_cases hcap : 0 < cap
            · obtain ⟨e1, _⟩ := h3 hcap
              cases e1
              exact .inr (.inl ⟨_, _, cap, rfl, h2, fun _ => g2, k1⟩)
            · have hm : m = 0 := by omega
              subst hm
              have : cs' = [] := by rw [← List.length_eq_zero_iff, k2]; simp
              subst this
              exact .inr (.inl ⟨_, _, cap, rfl, h2, fun h => (h rfl).elim, trivial⟩)
          simp only [sliceCells] at hsc
          split at hsc
          · rename_i c hc
            split at hsc
            · rename_i hle; cases hsc; exact key c (.inl hc) (by simpa using hle) rfl rfl
            · cases hsc
          · rename_i c hc
            split at hsc
            · rename_i hle; cases hsc; exact key c (.inr hc) (by simpa using hle) rfl rfl
            · cases hsc
          · cases hsc
        · cases h
      · cases h
    case hp b off =>
      obtain ⟨p, h1, rfl⟩ := hA
      split at h
      · rename_i c hok hc
        split at h
        · rename_i cs' hcs'
          cases h
          obtain ⟨g1, g2⟩ := hL b p c hok (.inl hc) h1
          obtain ⟨k1, _⟩ := mapO_RvC (fun A v A' hA hA' => ih A A' v hA hA') _ cs' _ _ g1 hcs'
          exact ⟨_, _, rfl, fun _ => g2, k1⟩
        · cases h
      · rename_i c hok hc
        split at h
        · rename_i cs' hcs'
          cases h
          obtain ⟨g1, g2⟩ := hL b p c hok (.inr hc) h1
          obtain ⟨k1, _⟩ := mapO_RvC (fun A v A' hA hA' => ih A A' v hA hA') _ cs' _ _ g1 hcs'
          exact ⟨_, _, rfl, fun _ => g2, k1⟩
        · cases h
      · cases h
    case mp b => cases h
    case agg cs =>
      split at h
      · rename_i cs' hcs'
        cases h
        obtain ⟨vs, rfl, hv⟩ := hA
        exact ⟨vs, rfl, mapO_RvL (fun A v A' hA hA' => ih A A' v hA hA') _ cs' _ hv hcs'⟩
      · cases h
    case tup cs =>
      split at h
      · rename_i cs' hcs'
        cases h
        obtain ⟨vs, rfl, hv⟩ := hA
        exact ⟨vs, rfl, mapO_RvL (fun A v A' hA hA' => ih A A' v hA hA') _ cs' _ hv hcs'⟩
      · cases h
    case fn f fs cs =>
      split at h
      · rename_i fs' cs' hfs' hcs'
        cases h
        obtain ⟨a, c, rfl, h1, h2⟩ := hA
        exact ⟨a, c, rfl, mapO_RvL (fun A v A' hA hA' => ih A A' v hA hA') _ fs' _ h1 hfs', mapO_RvL (fun A v A' hA hA' => ih A A' v hA hA') _ cs' _ h2 hcs'⟩
      · cases h

/-- The same under new numbers. -/
theorem renA_sound {H : List Blk} {ok : Nat → Bool} (hL : Look w mu mu' π H ok) (hmu : ∀ b, mu' b → mu b) {ρ : Nat → Option Nat} (hρ : ∀ b c, ρ b = some c → ∀ p, π[b]? = some (some p) → π'[c]? = some (some p)) :
    ∀ (n : Nat) (A A' : AV) (v : Value), Rv w mu π A v → renA H ok ρ n A = some A' → Rv w mu' π' A' v := by
  have hs : ∀ (n : Nat) (A A' : AV) (v : Value), Rv w mu π A v → snapA H ok n A = some A' → Rv w mu' π' A' v := fun n A A' v hA h => (snapA_sound hL hmu n A A' v hA h).lift
  have leaf : ∀ (n : Nat) (b off len es : Nat) (A' : AV) (v : Value), Rv w mu π (.hs b off len es) v → (match ρ b with | some c => some (AV.hs c off len es) | none => snapA H ok n (.hs b off len es)) = some A' → Rv w mu' π' A' v := by
    intro n b off len es A' v hA h
    split at h
    · rename_i c hc
      cases h
      rcases hA with hA | ⟨p, a, cap, h1, h2⟩
      · exact .inl hA
      · exact .inr ⟨p, a, cap, hρ b c hc p h1, h2⟩
    · exact hs n _ _ v hA h
  have leaf2 : ∀ (n : Nat) (b off : Nat) (A' : AV) (v : Value), Rv w mu π (.hp b off) v → (match ρ b with | some c => some (AV.hp c off) | none => snapA H ok n (.hp b off)) = some A' → Rv w mu' π' A' v := by
    intro n b off A' v hA h
    split at h
    · rename_i c hc
      cases h
      obtain ⟨p, h1, h2⟩ := hA
      exact ⟨p, hρ b c hc p h1, h2⟩
    · exact hs n _ _ v hA h
  intro n
  induction n with
  | zero =>
    intro A A' v hA h
    cases A <;> simp only [renA] at h
    case hs b off len es => exact leaf 0 b off len es A' v hA h
    case hp b off => exact leaf2 0 b off A' v hA h
    all_goals exact hs 0 _ A' v hA h
  | succ n ih =>
    intro A A' v hA h
    cases A <;> simp only [renA] at h
    case hs b off len es => exact leaf (n + 1) b off len es A' v hA h
    case hp b off => exact leaf2 (n + 1) b off A' v hA h
    case agg cs =>
      split at h
      · rename_i cs' hcs'
        cases h
        obtain ⟨vs, rfl, hv⟩ := hA
        exact ⟨vs, rfl, mapO_RvL (fun A v A' hA hA' => ih A A' v hA hA') _ cs' _ hv hcs'⟩
      · cases h
    case tup cs =>
      split at h
      · rename_i cs' hcs'
        cases h
        obtain ⟨vs, rfl, hv⟩ := hA
        exact ⟨vs, rfl, mapO_RvL (fun A v A' hA hA' => ih A A' v hA hA') _ cs' _ hv hcs'⟩
      · cases h
    all_goals exact hs (n + 1) _ A' v hA h

mutual
theorem noRef_any {w' : World} {mu2 : Nat → Prop} {π2 : List (Option PB)} : (A : AV) → (v : Value) → hasRef A = false → Rv w mu π A v → Rv w' mu2 π2 A v
  | .unk, _, _, _ => trivial
  | .at x, v, _, h => h
  | .agg cs, v, hr, h => by
    obtain ⟨vs, rfl, hv⟩ := h
    exact ⟨vs, rfl, noRefL_any cs _ (by simpa [hasRef] using hr) hv⟩
  | .tup cs, v, hr, h => by
    obtain ⟨vs, rfl, hv⟩ := h
    exact ⟨vs, rfl, noRefL_any cs _ (by simpa [hasRef] using hr) hv⟩
  | .fn f fs cs, v, hr, h => by
    obtain ⟨a, c, rfl, h1, h2⟩ := h
    simp only [hasRef, Bool.or_eq_false_iff] at hr
    exact ⟨a, c, rfl, noRefL_any fs _ hr.1 h1, noRefL_any cs _ hr.2 h2⟩
  | .sl .., _, hr, _ | .pp .., _, hr, _ | .hs .., _, hr, _ | .hp .., _, hr, _ | .mp .., _, hr, _ => by simp [hasRef] at hr
theorem noRefL_any {w' : World} {mu2 : Nat → Prop} {π2 : List (Option PB)} : (cs : List AV) → (vs : List Value) → hasRefL cs = false → RvL w mu π cs vs → RvL w' mu2 π2 cs vs
  | [], vs, _, h => h
  | c :: cs, vs, hr, h => by
    obtain ⟨v, vs', rfl, h1, h2⟩ := h
    simp only [hasRefL, Bool.or_eq_false_iff] at hr
    exact ⟨v, vs', rfl, noRef_any c v hr.1 h1, noRefL_any cs vs' hr.2 h2⟩
end
end

section
variable {P : Program} {out : Nat → Prop} {B : Nat → Prop} {w : World} {π : List (Option PB)} {H : List Blk}

/-- A block that is written no more. -/
theorem Inv.freeze1 (hI : Inv out B w π H) {b : Nat} {cs : List AV} (h : H[b]? = some (.own cs) ∨ H[b]? = some (.fix cs)) :
    Inv out B w π (upd H b (.fix cs)) ∧ Ext B w w (muOf out π H) (muOf out π (upd H b (.fix cs))) π π := by
  have hlt : b < H.length := by rcases h with h | h <;> exact getElem?_lt h
  have hu : upd H b (.fix cs) = H.set b (.fix cs) := by simp [upd, hlt]
  rw [hu]
  rcases h with h | h
  · cases hp : π[b]? with
    | none => have := List.getElem?_eq_none_iff.1 hp; have := hI.len; omega
    | some op =>
      cases op with
      | some p =>
        obtain ⟨h1, h2⟩ := hI.setBlk h hp rfl (.fix cs) (w' := w) rfl (fun _ _ => rfl) rfl rfl rfl (fun hE => RvC.ext hE cs _ _ rfl (blk_cells hI (.inl h) hp))
        exact ⟨h2, h1⟩
      | none =>
        -- a block without a place: nothing hangs on it
        have hmuiff : ∀ x, muOf out π (H.set b (.fix cs)) x → muOf out π H x := by
          rintro x (ho | ⟨i, y, p, g1, g2, g3, g4⟩)
          · exact .inl ho
          · rcases set_get g1 with ⟨rfl, rfl⟩ | ⟨_, g1'⟩
            · simp [Blk.isMut] at g2
            · exact .inr ⟨i, y, p, g1', g2, g3, g4⟩
        have hE : Ext B w w (muOf out π H) (muOf out π (H.set b (.fix cs))) π π := ⟨fun _ _ => rfl, Nat.le_refl _, fun x _ hx => ⟨rfl, fun hx' => hx (hmuiff x hx')⟩, fun _ _ h => h, rfl, rfl, rfl⟩
        refine ⟨⟨by simp [hI.len], hI.bound, hI.out_lt, ?_, ?_, ?_⟩, hE⟩
        · intro i x q g1 g2 g3
          rcases set_get g1 with ⟨rfl, _⟩ | ⟨_, g1'⟩
          · rw [hp] at g2; cases g2
          · exact hI.base i x q g1' g2 g3
        · intro i x q g1 g2
          rcases set_get g1 with ⟨rfl, _⟩ | ⟨_, g1'⟩
          · rw [hp] at g2; cases g2
          · exact BlkOk.ext hE (fun _ => rfl) (hI.ok i x q g1' g2)
        · intro i j x y q r hij g1 g2 g3 g4 g5 g6
          rcases set_get g1 with ⟨rfl, _⟩ | ⟨_, g1'⟩
          · rw [hp] at g3; cases g3
          · rcases set_get g2 with ⟨rfl, _⟩ | ⟨_, g2'⟩
            · rw [hp] at g4; cases g4
            · exact hI.sep i j x y q r hij g1' g2' g3 g4 g5 g6
  · have he : H.set b (.fix cs) = H := by
      apply List.ext_getElem?
      intro j
      rw [List.getElem?_set]
      split
      · rename_i hij; subst hij; first | exact h.symm | (rw [if_pos hlt]; exact h.symm)
      · rfl
    rw [he]
    exact ⟨hI, Ext.refl _ _ _⟩

theorem freezeW_sound : ∀ (l : List Nat) (H' : List Blk) (H0 : List Blk), Inv out B w π H' → (∀ b ∈ l, b < H0.length → (H'[b]? = H0[b]? ∨ ∃ cs, H0[b]? = some (.own cs) ∧ H'[b]? = some (.fix cs))) →
    Inv out B w π (updAll H' (freezeW H0 l)) ∧ Ext B w w (muOf out π H') (muOf out π (updAll H' (freezeW H0 l))) π π ∧
    (updAll H' (freezeW H0 l)).length = H'.length ∧ (∀ b ∈ l, ∀ cs, H0[b]? = some (.own cs) → (updAll H' (freezeW H0 l))[b]? = some (.fix cs)) ∧
    (∀ b, (∀ cs, b ∈ l → H0[b]? ≠ some (.own cs)) → (updAll H' (freezeW H0 l))[b]? = H'[b]?)
  | [], H', H0, hI, _ => ⟨hI, Ext.refl _ _ _, rfl, by simp, fun _ _ => rfl⟩
  | b :: l, H', H0, hI, hag => by
    cases hb : H0[b]? with
    | none =>
      have e : freezeW H0 (b :: l) = freezeW H0 l := by simp [freezeW, hb]
      rw [e]
      obtain ⟨h1, h2, h3, h4, h5⟩ := freezeW_sound l H' H0 hI (fun x hx => hag x (by simp [hx]))
      refine ⟨h1, h2, h3, fun x hx cs hcs => ?_, fun x hx => h5 x fun cs hm => hx cs (by simp [hm])⟩
      rcases List.mem_cons.1 hx with rfl | hx
      · rw [hb] at hcs; cases hcs
      · exact h4 x hx cs hcs
    | some y =>
      have other : (∀ cs, y ≠ .own cs) → freezeW H0 (b :: l) = freezeW H0 l := by
        intro hy
        cases y with
        | own cs => exact (hy cs rfl).elim
        | _ => simp [freezeW, hb]
      by_cases hy : ∃ cs, y = .own cs
      · obtain ⟨cs, rfl⟩ := hy
        have e : freezeW H0 (b :: l) = (b, .fix cs) :: freezeW H0 l := by simp [freezeW, hb]
        rw [e]
        have hlt : b < H0.length := getElem?_lt hb
        have hH' : H'[b]? = some (.own cs) ∨ H'[b]? = some (.fix cs) := by
          rcases hag b (by simp) hlt with h | ⟨cs', h1, h2⟩
          · left; rw [h]; exact hb
          · rw [hb] at h1; cases h1; exact .inr h2
        have hlt' : b < H'.length := by rcases hH' with h | h <;> exact getElem?_lt h
        obtain ⟨hI1, hE1⟩ := hI.freeze1 hH'
        have hl1 : (upd H' b (.fix cs)).length = H'.length := by rw [upd_length (by omega), if_neg (by omega)]
        obtain ⟨h1, h2, h3, h4, h5⟩ := freezeW_sound l (upd H' b (.fix cs)) H0 hI1 (fun x hx hxl => by
          rw [upd_get (by omega)]
          split
          · rename_i e0; subst e0; exact .inr ⟨cs, hb, rfl⟩
          · exact hag x (by simp [hx]) hxl)
        refine ⟨h1, hE1.trans h2, by rw [updAll, h3, hl1], fun x hx cs' hcs' => ?_, fun x hx => ?_⟩
        · by_cases hxl : x ∈ l
          · exact h4 x hxl cs' hcs'
          · rcases List.mem_cons.1 hx with rfl | hx
            · rw [hb] at hcs'; cases hcs'
              rw [updAll, h5 x (fun _ hm => (hxl hm).elim), upd_get (by omega), if_pos rfl]
            · exact (hxl hx).elim
        · have hxb : x ≠ b := by rintro rfl; exact hx cs (by simp) hb
          rw [updAll, h5 x (fun cs' hm => hx cs' (by simp [hm])), upd_get (by omega), if_neg hxb]
      · have hy' : ∀ cs, y ≠ .own cs := fun cs e => hy ⟨cs, e⟩
        rw [other hy']
        obtain ⟨h1, h2, h3, h4, h5⟩ := freezeW_sound l H' H0 hI (fun x hx => hag x (by simp [hx]))
        refine ⟨h1, h2, h3, fun x hx cs hcs => ?_, fun x hx => h5 x fun cs hm => hx cs (by simp [hm])⟩
        rcases List.mem_cons.1 hx with rfl | hx
        · rw [hb] at hcs; cases hcs; exact (hy' cs rfl).elim
        · exact h4 x hx cs hcs

/-- What a callee has done behind our blocks. -/
theorem Inv.past {w' : World} (hI : Inv out B w π H) (hlow : ∀ b, b < w.heap.size → w'.heap[b]? = w.heap[b]?) (hsz : w.heap.size ≤ w'.heap.size) (ho : w'.os = w.os) (ht : w'.tape = w.tape) (hu : w'.output = w.output) :
    Inv out B w' π H ∧ Ext B w w' (muOf out π H) (muOf out π H) π π := by
  have hE : Ext B w w' (muOf out π H) (muOf out π H) π π := ⟨fun b hb => hlow b (hI.bound b hb), hsz, fun b hb h => ⟨hlow b hb, h⟩, fun _ _ h => h, ho, ht, hu⟩
  refine ⟨⟨hI.len, fun b hb => by have := hI.bound b hb; omega, hI.out_lt, fun i x p h1 h2 h3 => by have := hI.base i x p h1 h2 h3; exact ⟨this.1, by omega⟩, fun i x p h1 h2 => BlkOk.ext hE (fun hl => hlow _ (hI.base i x p h1 h2 hl).2) (hI.ok i x p h1 h2), hI.sep⟩, hE⟩

/-- A callee's blocks become ours. -/
theorem Inv.adoptAll (hI : Inv out B w π H) {w' : World} (hlow : ∀ b, b < w.heap.size → w'.heap[b]? = w.heap[b]?) (hsz : w.heap.size ≤ w'.heap.size) (ho : w'.os = w.os) (ht : w'.tape = w.tape) (hu : w'.output = w.output)
    {π' : List (Option PB)} {H' : List Blk} (hl : π'.length = H'.length) (hpre : ∀ (i : Nat) (p : PB), π[i]? = some (some p) → π'[i]? = some (some p))
    (hs : ∀ (j : Nat) (x : Blk) (p : PB), H'[j]? = some x → π'[j]? = some (some p) → (H[j]? = some x ∧ π[j]? = some (some p)) ∨
      (w.heap.size ≤ p.blk ∧ p.blk < w'.heap.size ∧ (∀ (i : Nat) (y : Blk) (q : PB), i ≠ j → H'[i]? = some y → π'[i]? = some (some q) → y.isLive = true → q.blk ≠ p.blk) ∧
        (Ext B w w' (muOf out π H) (muOf out π' H') π π' → BlkOk w' (muOf out π' H') π' p x))) :
    Inv out B w' π' H' ∧ Ext B w w' (muOf out π H) (muOf out π' H') π π' := by
  have hE : Ext B w w' (muOf out π H) (muOf out π' H') π π' := by
    refine ⟨fun b hb => hlow b (hI.bound b hb), hsz, fun b hb hn => ⟨hlow b hb, ?_⟩, hpre, ho, ht, hu⟩
    rintro (hb' | ⟨i, x, p, h1, h2, h3, h4⟩)
    · exact hn (.inl hb')
    · rcases hs i x p h1 h3 with ⟨g1, g3⟩ | ⟨g, _⟩
      · exact hn (.inr ⟨i, x, p, g1, h2, g3, h4⟩)
      · omega
  refine ⟨⟨hl, fun b hb => by have := hI.bound b hb; omega, hI.out_lt, ?_, ?_, ?_⟩, hE⟩
  · intro i x p h1 h2 h3
    rcases hs i x p h1 h2 with ⟨g1, g2⟩ | ⟨g1, g2, _⟩
    · have := hI.base i x p g1 g2 h3; exact ⟨this.1, by omega⟩
    · exact ⟨fun hb => by have := hI.bound _ hb; omega, g2⟩
  · intro i x p h1 h2
    rcases hs i x p h1 h2 with ⟨g1, g2⟩ | ⟨_, _, _, g⟩
    · exact BlkOk.ext hE (fun hl => hlow _ (hI.base i x p g1 g2 hl).2) (hI.ok i x p g1 g2)
    · exact g hE
  · intro i j x y p q hij h1 h2 h3 h4 h5 h6
    rcases hs i x p h1 h3 with ⟨g1, g3⟩ | ⟨_, _, g, _⟩
    · rcases hs j y q h2 h4 with ⟨g2, g4⟩ | ⟨_, _, g, _⟩
      · exact hI.sep i j x y p q hij g1 g2 g3 g4 h5 h6
      · exact g i x p hij h1 h3 (Blk.live_of_mut h5)
    · exact fun e => g j y q (fun e => hij e.symm) h2 h4 h6 e.symm

/-- Places written over. -/
def over (l : List (Option PB)) (n : Nat) (ps : List (Option PB)) : List (Option PB) := l.take n ++ (ps ++ l.drop (n + ps.length))
theorem over_length {l ps : List (Option PB)} {n : Nat} (h : n + ps.length ≤ l.length) : (over l n ps).length = l.length := by
  simp only [over, List.length_append, List.length_take, List.length_drop]; omega
theorem over_in {l ps : List (Option PB)} {n j : Nat} (h : n + ps.length ≤ l.length) (hj : j < ps.length) : (over l n ps)[n + j]? = ps[j]? := by
  have hlt : (l.take n).length = n := by rw [List.length_take]; omega
  rw [over, List.getElem?_append_right (by omega), hlt, List.getElem?_append_left (by omega)]
  congr 1; omega
theorem over_off {l ps : List (Option PB)} {n j : Nat} (h : n + ps.length ≤ l.length) (hj : j < n ∨ n + ps.length ≤ j) : (over l n ps)[j]? = l[j]? := by
  have hlt : (l.take n).length = n := by rw [List.length_take]; omega
  rcases hj with hj | hj
  · rw [over, List.getElem?_append_left (by omega), List.getElem?_take, if_pos hj]
  · rw [over, List.getElem?_append_right (by omega), hlt, List.getElem?_append_right (by omega), List.getElem?_drop]
    congr 1; omega

theorem numbered_get : ∀ (new : List (List AV)) (n : Nat) (H : List Blk), n + new.length ≤ H.length → (updAll H (numbered n new)).length = H.length ∧
    (∀ j, j < new.length → (updAll H (numbered n new))[n + j]? = (new[j]?).map Blk.own) ∧ (∀ j, j < n ∨ n + new.length ≤ j → (updAll H (numbered n new))[j]? = H[j]?)
  | [], n, H, h => ⟨rfl, by simp, fun _ _ => rfl⟩
  | x :: xs, n, H, h => by
    simp only [List.length_cons] at h
    have hl : (upd H n (.own x)).length = H.length := by rw [upd_length (by omega), if_neg (by omega)]
    obtain ⟨h1, h2, h3⟩ := numbered_get xs (n + 1) (upd H n (.own x)) (by omega)
    refine ⟨by simp only [numbered, updAll, h1, hl], fun j hj => ?_, fun j hj => ?_⟩
    · simp only [List.length_cons] at hj
      simp only [numbered, updAll]
      cases j with
      | zero => rw [h3 _ (.inl (by omega)), upd_get (by omega), if_pos (by omega)]; rfl
      | succ j =>
        rw [show n + (j + 1) = n + 1 + j by omega, h2 j (by omega)]
        simp
    · simp only [List.length_cons] at hj
      simp only [numbered, updAll]
      rw [h3 j (by omega), upd_get (by omega), if_neg (by omega)]

theorem numbered_mem : ∀ (new : List (List AV)) (n j : Nat), j < new.length → ∃ b, (n + j, b) ∈ numbered n new
  | [], _, _, h => by simp at h
  | x :: xs, n, 0, _ => ⟨_, List.mem_cons_self⟩
  | x :: xs, n, j + 1, h => by
    obtain ⟨b, hb⟩ := numbered_mem xs (n + 1) j (by simpa using h)
    exact ⟨b, by rw [show n + (j + 1) = n + 1 + j by omega]; exact List.mem_cons_of_mem _ hb⟩

theorem updAll_app : ∀ (a b : List (Nat × Blk)) (H : List Blk), updAll H (a ++ b) = updAll (updAll H a) b
  | [], _, _ => rfl
  | (_, _) :: a, b, _ => by simp only [List.cons_append, updAll]; exact updAll_app a b _

theorem findAt_some : ∀ (l : List Nat) (x base c : Nat), findAt l x base = some c → ∃ k, l[k]? = some x ∧ c = base + k
  | [], _, _, _, h => by simp [findAt] at h
  | y :: ys, x, base, c, h => by
    simp only [findAt] at h
    split at h
    · rename_i e; cases h; exact ⟨0, by simp [e], rfl⟩
    · obtain ⟨k, h1, h2⟩ := findAt_some ys x (base + 1) c h
      exact ⟨k + 1, by simpa using h1, by omega⟩

theorem nodupB_ne : ∀ (l : List Nat), nodupB l = true → ∀ (i j x y : Nat), i ≠ j → l[i]? = some x → l[j]? = some y → x ≠ y
  | [], _, i, _, _, _, _, h, _ => by simp at h
  | z :: l, h, i, j, x, y, hij, h1, h2 => by
    simp only [nodupB, Bool.and_eq_true, Bool.not_eq_true'] at h
    have hz : z ∉ l := by have := h.1; simpa using this
    cases i with
    | zero =>
      simp only [List.getElem?_cons_zero, Option.some.injEq] at h1
      cases j with
      | zero => exact (hij rfl).elim
      | succ j =>
        simp only [List.getElem?_cons_succ] at h2
        rintro rfl; subst h1; exact hz (List.mem_of_getElem? h2)
    | succ i =>
      simp only [List.getElem?_cons_succ] at h1
      cases j with
      | zero =>
        simp only [List.getElem?_cons_zero, Option.some.injEq] at h2
        rintro rfl; subst h2; exact hz (List.mem_of_getElem? h1)
      | succ j =>
        simp only [List.getElem?_cons_succ] at h2
        exact nodupB_ne l h.2 i j x y (by omega) h1 h2

theorem bringL_get {G : List Blk} {ok : Nat → Bool} {n : Nat} : ∀ (σ : List Nat) (new : List (List AV)), bringL G ok n σ = some new → new.length = σ.length ∧
    ∀ (k b : Nat), σ[k]? = some b → ∃ cs cs', G[b]? = some (Blk.own cs) ∧ mapO (snapA G ok n) cs = some cs' ∧ new[k]? = some cs'
  | [], new, h => by cases h; exact ⟨rfl, fun k b h => by simp at h⟩
  | b :: bs, new, h => by
    simp only [bringL] at h
    split at h
    · rename_i cs hb
      split at h
      · rename_i cs' l hcs' hl
        cases h
        obtain ⟨h1, h2⟩ := bringL_get bs l hl
        refine ⟨by simp [h1], fun k b' hk => ?_⟩
        cases k with
        | zero => simp at hk; subst hk; exact ⟨cs, cs', hb, hcs', rfl⟩
        | succ k => simpa using h2 k b' (by simpa using hk)
      · cases h
    · cases h
end
end Go.Eng
