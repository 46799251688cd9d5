/- The engine, part 24: cells of blocks known by less. -/
import Derived.Test.YtlajgmapmocpbaaGreatSc5e
set_option linter.unusedVariables false
set_option linter.unusedSimpArgs false
namespace Go.Eng
open Go Go.RowKit
variable {K : Nat}

theorem RvC.set {w : World} {mu : Nat → Prop} {π : List (Option PB)} {A A' : AV} (hA : RvTo A A') : ∀ (cs : List AV) (j b o : Nat), cs[j]? = some A → RvC w mu π cs b o → RvC w mu π (cs.set j A') b o
  | [], j, _, _, h, _ => by simp at h
  | c :: cs, 0, b, o, h, k => by
    simp at h; subst h
    obtain ⟨⟨v, h1, h2, h3⟩, h4⟩ := k
    exact ⟨⟨v, h1, h2, hA _ _ _ _ h3⟩, h4⟩
  | c :: cs, j + 1, b, o, h, k => ⟨k.1, RvC.set hA cs j b (o + 1) (by simpa using h) k.2⟩
/-- A cell of an own block, known by less. -/
theorem Wk.cell (i j : Nat) {A A' : AV} {cs : List AV} {s : List AV} {h : List Blk} (hA : RvTo A A') (hb : h[i]? = some (.own cs)) (hc : cs[j]? = some A) : Wk K ⟨s, h⟩ ⟨s, h.set i (.own (cs.set j A'))⟩ := fun out B w π a hR => by
  have hI := hR.inv
  have hil := getElem?_lt hb
  have g : ∀ {k : Nat} {x : Blk}, (h.set i (.own (cs.set j A')))[k]? = some x → (k = i ∧ x = .own (cs.set j A')) ∨ (k ≠ i ∧ h[k]? = some x) := by
    intro k x hk
    by_cases hki : k = i
    · subst hki
      rw [List.getElem?_set_self hil] at hk
      exact .inl ⟨rfl, (Option.some.inj hk).symm⟩
    · rw [List.getElem?_set_ne (fun e => hki e.symm)] at hk
      exact .inr ⟨hki, hk⟩
  have old : ∀ {k : Nat} {x : Blk}, (h.set i (.own (cs.set j A')))[k]? = some x → ∃ y, h[k]? = some y ∧ y.isLive = x.isLive ∧ y.isMut = x.isMut := by
    intro k x hk
    rcases g hk with ⟨rfl, rfl⟩ | ⟨_, hk⟩
    · exact ⟨_, hb, rfl, rfl⟩
    · exact ⟨x, hk, rfl, rfl⟩
  have hmu : muOf out π (h.set i (.own (cs.set j A'))) = muOf out π h := by
    funext b
    apply propext
    constructor
    · rintro (hb | ⟨k, x, p, h1, h2, h3, h4⟩)
      · exact .inl hb
      · obtain ⟨y, y1, _, y3⟩ := old h1
        exact .inr ⟨k, y, p, y1, by rw [y3]; exact h2, h3, h4⟩
    · rintro (hb' | ⟨k, x, p, h1, h2, h3, h4⟩)
      · exact .inl hb'
      · by_cases hki : k = i
        · subst hki
          exact .inr ⟨k, .own (cs.set j A'), p, List.getElem?_set_self hil, rfl, h3, h4⟩
        · exact .inr ⟨k, x, p, by rw [List.getElem?_set_ne (fun e => hki e.symm)]; exact h1, h2, h3, h4⟩
  refine ⟨π, ⟨hR.defers, ?_, ?_⟩, fun b hb => ?_, PinK.refl π⟩
  · simp only [hmu]; exact hR.slots
  · refine ⟨by simpa using hI.len, hI.bound, hI.out_lt, ?_, ?_, ?_⟩
    · intro k x p h1 h2 h3
      obtain ⟨y, y1, y2, _⟩ := old h1
      exact hI.base k y p y1 h2 (by rw [y2]; exact h3)
    · intro k x p h1 h2
      simp only [hmu]
      rcases g h1 with ⟨rfl, rfl⟩ | ⟨_, hk⟩
      · obtain ⟨o1, o2⟩ := hI.ok k _ p hb h2
        exact ⟨o1, RvC.set hA cs j _ _ hc o2⟩
      · exact hI.ok k x p hk h2
    · intro k l x y p q hkl h1 h2 h3 h4 h5 h6
      obtain ⟨x', x1, _, x3⟩ := old h1
      obtain ⟨y', y1, y2, _⟩ := old h2
      exact hI.sep k l x' y' p q hkl x1 y1 h3 h4 (by rw [x3]; exact h5) (by rw [y2]; exact h6)
  · rw [hmu] at hb; exact hb
/-- A free block more. -/
theorem Wk.fresh {s : List AV} {h : List Blk} (x : Blk) : Wk K ⟨s, h⟩ ⟨s, h ++ [x]⟩ := fun out B w π a hR => by
  have hl := hR.inv.len
  simp only at hl
  obtain ⟨g2, g1⟩ := hR.inv.addFree (n := h.length) (Nat.le_refl _) (fun q e => by have := getElem?_lt e; omega) x
  have hu : upd h h.length x = h ++ [x] := by simp [upd]
  simp only at g1 g2
  rw [hu] at g1 g2
  exact ⟨_, ⟨hR.defers, RvL.ext g2 _ _ hR.slots, g1⟩, fun b hb => by
    rcases hb with hb | ⟨k, y, p, h1, h2, h3, h4⟩
    · exact .inl hb
    · rcases Nat.lt_or_ge k h.length with hk | hk
      · rw [List.getElem?_append_left hk] at h1
        refine .inr ⟨k, y, p, h1, h2, ?_, h4⟩
        unfold upd at h3
        rw [if_neg (by omega), List.getElem?_append_left (by omega)] at h3
        exact h3
      · exfalso
        have := getElem?_lt h1
        simp at this
        have hk : k = π.length := by omega
        subst hk
        unfold upd at h3
        rw [if_neg (by omega), List.getElem?_append_right (by omega)] at h3
        simp at h3, g2.pin⟩
/-- A nil slice in a cell as an empty slice of a block of its own. -/
theorem Wk.nilcell (i j es : Nat) {cs : List AV} {s : List AV} {h : List Blk} (hb : h[i]? = some (.own cs)) (hc : cs[j]? = some (.at (.slice none 0 0))) : Wk K ⟨s, h⟩ ⟨s, List.set (h ++ [Blk.own []]) i (Blk.own (cs.set j (.hs h.length 0 0 es)))⟩ :=
  (Wk.fresh (Blk.own [])).trans (Wk.cell i j (RvTo.nil h.length 0 es) (by rw [List.getElem?_append_left (getElem?_lt hb)]; exact hb) hc)
theorem RvTo.nilT {c : List AV} (h : c = []) : RvTo (.at (.slice none 0 0)) (.sl true c 0) := fun _ _ _ _ hv => .inl ⟨rfl, rfl, h, hv⟩
/-- A nil slice in a cell as an empty pure one. -/
theorem Wk.nilTcell (i j : Nat) {cs : List AV} {s : List AV} {h : List Blk} (hb : h[i]? = some (.own cs)) (hc : cs[j]? = some (.at (.slice none 0 0))) : Wk K ⟨s, h⟩ ⟨s, h.set i (.own (cs.set j (.sl true [] 0)))⟩ := Wk.cell i j (RvTo.nilT rfl) hb hc
end Go.Eng
