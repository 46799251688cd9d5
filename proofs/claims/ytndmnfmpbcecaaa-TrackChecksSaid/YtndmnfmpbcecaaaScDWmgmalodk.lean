import Derived.Test.YtndmnfmpbcecaaaScDjiiaoinc
import Derived.Test.YtndmnfmpbcecaaaScWdabpmehg
set_option linter.all false
set_option linter.unusedVariables false
set_option linter.unusedSectionVars false
namespace Go.Eng
open Go Go.RowKit Go.Proofs Go.Lib
theorem setCells_frame (b : Nat) : ∀ (vs : List Value) (o : Nat) (w : World), (∀ b', b' ≠ b → (w.setCells b o vs).heap[b']? = w.heap[b']?) ∧ (w.setCells b o vs).heap.size = w.heap.size ∧ (w.setCells b o vs).os = w.os ∧ (w.setCells b o vs).tape = w.tape ∧
  (w.setCells b o vs).output = w.output ∧ (w.setCells b o vs).drawn = w.drawn ∧ ∀ c e f, w.heap[b]? = some (.cells c e f) → ∃ c', (w.setCells b o vs).heap[b]? = some (.cells c' e f) ∧ c'.size = c.size
 | [], _, _ => ⟨fun _ _ => rfl, rfl, rfl, rfl, rfl, rfl, fun c _ _ h => ⟨c, h, rfl⟩⟩
 | v :: vs, o, w => by
  obtain ⟨h1, h2, h3, h4, h5, h6, h7⟩ := setCells_frame b vs (o + 1) (w.setCell ⟨b, o, none⟩ v)
  refine ⟨fun b' hb => (h1 b' hb).trans (Below.heap_setCell w _ v b' hb), h2.trans (by simp), h3, h4, h5, h6, fun c e f h => ?_⟩
  obtain ⟨c', g1, g2⟩ := h7 (c.setIfInBounds o v) e f (by simp [World.setCell, Array.getElem?_modify, h])
  exact ⟨c', g1, by simpa using g2⟩
variable [Dr]
variable {P : Program}
theorem FnMut.delW {rs : List RC} {f : FuncId} {i j : Nat} (hD : DelContract P f 1 [.slice none 0 0]) (hij : i < j) (hj : j ≤ rs.length) :
  FnMut 0 P f [.hs 0 0 rs.length 1, .at (.int .i64 i), .at (.int .i64 j)] [.rows rs] (.hs 0 0 (rs.take i ++ rs.drop j).length 1) [.rows (rs.take i ++ rs.drop j)] := by
 intro out B w π vs hI ha
 obtain ⟨v, vs', rfl, hv, v2, vs2, rfl, h2, v3, vs3, rfl, h3, hnil⟩ := ha
 have hnil : vs3 = [] := hnil
 have h2 : v2 = .int .i64 i := h2
 have h3 : v3 = .int .i64 j := h3
 subst hnil; subst h2; subst h3
 rcases hv with ⟨hz0, _⟩ | ⟨p, a, cap, hp, rfl, hcap, hspot, hadr⟩
 · omega
 obtain ⟨rfl, hfit⟩ := hadr (by omega)
 have hH0 : ([.rows rs] : List Blk)[0]? = some (.rows rs) := rfl
 have hπ : π = [some p] := by
  have hl := hI.len
  match π, hl, hp with
  | [x], _, hp => simp at hp; rw [hp]
 obtain ⟨⟨cells, ty, hb, hsz⟩, hC, hsep1, hsep2⟩ := hI.ok 0 _ p rfl hp
 obtain ⟨us, hus⟩ : ∃ us, us = (List.range rs.length).map fun t => (w.cell? ⟨p.blk, p.off + t, none⟩).getD default := ⟨_, rfl⟩
 have hul : us.length = rs.length := by rw [hus]; simp
 have hcell : ∀ t (ht : t < rs.length), w.cell? ⟨p.blk, p.off + t, none⟩ = some (us[t]'(by omega)) ∧ RcV w (muOf out π [.rows rs]) π (p.subs t) rs[t] (us[t]'(by omega)) := fun t ht => by
  obtain ⟨u, g1, g2⟩ := hC.at (List.getElem?_eq_getElem ht)
  have e : us[t]'(by omega) = u := by
   subst hus
   simp only [List.getElem_map, List.getElem_range]
   rw [g1]; rfl
  rw [e]
  exact ⟨g1, g2⟩
 have hone : ∀ v ∈ us, v.oneCell' = true := fun v hv => by
  obtain ⟨t, ht, rfl⟩ := List.getElem_of_mem hv
  exact (hcell t (by omega)).2.one
 have hfro : ∀ t, w.frozen? ⟨p.blk, t, none⟩ = false := fun t => by simp [World.frozen?, hb]
 refine (hD p.blk (p.off + 0) cap rs.length i j w us (by omega) (fun t v ht => by
  have h := getElem?_lt ht
  rw [List.getElem?_eq_getElem h] at ht; cases ht
  rw [Nat.add_zero]
  exact (hcell t (by omega)).1) (fun t _ => hfro _) hone hcap hij hj).mono ?_
 rintro e w' ⟨rfl, rfl⟩
 have hlr : (rs.take i ++ rs.drop j).length = rs.length - (j - i) := by simp; omega
 obtain ⟨a1, a2, a3, a4, a5, a6, a7⟩ := setCells_frame p.blk (us.drop (j * 1)) (p.off + 0 + i * 1) w.drew
 obtain ⟨c1, c2, c3, c4, c5, c6, c7⟩ := setCells_frame p.blk ((List.replicate (j - i) [Value.slice none 0 0]).flatten) (p.off + 0 + (i + (rs.length - j)) * 1) (w.drew.setCells p.blk (p.off + 0 + i * 1) (us.drop (j * 1)))
 have hd1 : (us.drop (j * 1)).length = rs.length - j := by rw [List.length_drop, hul]; omega
 have hsome : ∀ t, t < rs.length → (w.drew.cell? ⟨p.blk, p.off + t, none⟩).isSome = true := fun t ht => by
  show (w.cell? _).isSome = true
  rw [(hcell t ht).1]; rfl
 have hF4 : ∀ k (hk : k < rs.length - (j - i)), ((w.drew.setCells p.blk (p.off + 0 + i * 1) (us.drop (j * 1))).setCells p.blk (p.off + 0 + (i + (rs.length - j)) * 1) ((List.replicate (j - i) [Value.slice none 0 0]).flatten)).cell? ⟨p.blk, p.off + k, none⟩ = some (us[if k < i then k else k + (j - i)]'(by split <;> omega)) := fun k hk => by
  rw [World.cell?_setCells_out _ _ _ _ _ (fun _ _ => .inl (by show p.off + k < _; omega))]
  by_cases hki : k < i
  · rw [World.cell?_setCells_out _ _ _ _ _ (fun _ _ => .inl (by show p.off + k < _; omega))]
    show w.cell? _ = _
    simp only [if_pos hki]
    exact (hcell k (by omega)).1
  · have := World.cell?_setCells_in p.blk (us.drop (j * 1)) (p.off + 0 + i * 1) w.drew (fun t ht => by
     rw [hd1] at ht
     rw [show p.off + 0 + i * 1 + t = p.off + (i + t) by omega]; exact hsome _ (by omega)) (k - i) (by rw [hd1]; omega)
    rw [show p.off + 0 + i * 1 + (k - i) = p.off + k by omega] at this
    rw [this]
    simp only [if_neg hki, List.getElem_drop]
    congr 2
    omega
 generalize ((w.drew.setCells p.blk (p.off + 0 + i * 1) (us.drop (j * 1))).setCells p.blk (p.off + 0 + (i + (rs.length - j)) * 1) ((List.replicate (j - i) [Value.slice none 0 0]).flatten)) = w' at *
 have hF1 : ∀ b', b' ≠ p.blk → w'.heap[b']? = w.heap[b']? := fun b' h => (c1 b' h).trans (a1 b' h)
 have hF2 : w'.heap.size = w.heap.size := c2.trans a2
 obtain ⟨cs1, g1, g2⟩ := a7 cells ty (0, 0) hb
 obtain ⟨cs2, g3, g4⟩ := c7 cs1 ty (0, 0) g1
 have hget : ∀ k, (rs.take i ++ rs.drop j)[k]? = rs[if k < i then k else k + (j - i)]? := fun k => by
  by_cases hki : k < i
  · rw [if_pos hki, List.getElem?_append_left (by rw [List.length_take]; omega), List.getElem?_take_of_lt hki]
  · rw [if_neg hki, List.getElem?_append_right (by rw [List.length_take]; omega), List.getElem?_drop, List.length_take, Nat.min_eq_left (by omega)]
    congr 1; omega
 let p' : PB := { p with subs := fun k => p.subs (if k < i then k else k + (j - i)) }
 have hsim : SimP π [some p'] := by
  intro k q h
  rw [hπ] at h
  match k, h with
  | 0, h => simp at h; subst h; exact ⟨p', rfl, rfl, rfl, rfl⟩
 have how : ∀ {c : Nat}, (Blk.rows (rs.take i ++ rs.drop j)).owns p' c → (Blk.rows rs).owns p c := by
  rintro c (h | ⟨k, len, es, cs, q, h1, h2, h3⟩)
  · exact .inl h
  · rw [hget] at h1
    exact .inr ⟨_, len, es, cs, q, h1, h2, h3⟩
 have hmu : ∀ c, muOf out [some p'] [.rows (rs.take i ++ rs.drop j)] c → muOf out π [.rows rs] c := by
  rintro c (h | ⟨k, x, q, h1, h2, h3, h4⟩)
  · exact .inl h
  · match k, h1, h3 with
    | 0, h1, h3 =>
     simp at h1 h3; subst h1; subst h3
     exact .inr ⟨0, _, p, rfl, rfl, hp, how h4⟩
 have hmub : muOf out [some p'] [.rows (rs.take i ++ rs.drop j)] p.blk := .inr ⟨0, _, p', rfl, rfl, rfl, .inl rfl⟩
 have hBb : ∀ b, B b → b ≠ p.blk := fun b hB e => (hI.base 0 _ p rfl hp rfl).1 (e ▸ hB)
 have hE : Ext B w w' (muOf out [some p'] [.rows (rs.take i ++ rs.drop j)]) (muOf out [some p'] [.rows (rs.take i ++ rs.drop j)]) [some p'] [some p'] :=
  ⟨fun b hB => hF1 b (hBb b hB), by rw [hF2]; exact Nat.le_refl _, fun b _ hn => ⟨hF1 b (fun e => hn (e ▸ hmub)), hn⟩, fun _ _ h => h, c3.trans a3, c4.trans a4, c5.trans a5, fun _ => by rw [c6, a6]; exact Nat.le_succ _⟩
 have hinv : Inv out B w' [some p'] [.rows (rs.take i ++ rs.drop j)] := by
  refine ⟨rfl, fun b hB => by rw [hF2]; exact hI.bound b hB, hI.out_lt, ?_, ?_, ?_⟩
  · intro k x q b h1 h2 h3
    match k, h1, h2 with
    | 0, h1, h2 =>
     simp at h1 h2; subst h1; subst h2
     rw [hF2]
     exact hI.baseO 0 _ p b rfl hp (how h3)
  · intro k x q h1 h2
    match k, h1, h2 with
    | 0, h1, h2 =>
     simp at h1 h2; subst h1; subst h2
     refine ⟨⟨cs2, ty, g3, by rw [g4, g2, hsz]⟩, RvW.of _ _ _ _ fun k x hx => ?_, fun k len es cs q h1 h2 => ?_, fun k k' len es len' es' cs cs' q q' hne h1 h2 h3 h4 => ?_⟩
     · have hk : k < rs.length - (j - i) := by have := getElem?_lt hx; omega
       rw [hget] at hx
       have hσ := getElem?_lt hx
       obtain ⟨_, r2⟩ := hcell _ hσ
       rw [List.getElem?_eq_getElem hσ] at hx
       cases hx
       refine ⟨_, hF4 k hk, ?_⟩
       have r3 := RcV.sim hmu hsim r2
       show RcV w' _ _ (p.subs (if k < i then k else k + (j - i))) _ _
       generalize hrr : rs[if k < i then k else k + (j - i)] = x at r3 ⊢
       cases x with
       | row len es cs => exact RowV.ext hE (fun q hq => hF1 _ (hsep1 _ len es cs q (by rw [List.getElem?_eq_getElem hσ, hrr]) hq)) r3
       | av A => exact ⟨r3.1, Rv.ext hE A _ r3.2⟩
     · rw [hget] at h1
       exact hsep1 _ len es cs q h1 h2
     · rw [hget] at h1 h2
       refine hsep2 _ _ len es len' es' cs cs' q q' (fun e => hne ?_) h1 h2 h3 h4
       split at e <;> split at e <;> omega
  · intro k l x y q r b hkl h1 h2 h3 h4 h5 h6 h7
    match k, l, h1, h2 with
    | 0, 0, _, _ => exact hkl rfl
 refine ⟨_, [some p'], rfl, ⟨fun b hB => hF1 b (hBb b hB), by rw [hF2]; exact Nat.le_refl _, fun b _ hn => ⟨hF1 b (fun e => hn (hmu b (e ▸ hmub))), fun h => hn (hmu b h)⟩, c3.trans a3, c4.trans a4, c5.trans a5, fun k hk => by omega, fun _ => by rw [c6, a6]; exact Nat.le_succ _⟩, hinv, ?_⟩
 rw [hlr]
 exact .inr ⟨p', _, cap, rfl, rfl, by omega, hspot, fun h => ⟨rfl, hfit⟩⟩
theorem FnMut.delP {α : Type} {es : Nat} {c : α → List AV} {e : List (List α)} {f : FuncId} {i j : Int} {S : AV} (hD : DelContract P f 1 [.slice none 0 0]) (h : (decide (0 ≤ i) && decide (i + 1 = j) && decide (j ≤ (e.length : Int))) = true) :
  FnMut 0 P f [.hs 0 0 e.length 1, .at (.int .i64 i), .at (.int .i64 j)] [.rows ((Go.L.rws es c e).set i.toNat (.av S))] (.hs 0 0 (e.take i.toNat ++ e.drop j.toNat).length 1) [.rows (Go.L.rws es c (e.take i.toNat ++ e.drop j.toNat))] := by
 simp only [Bool.and_eq_true, decide_eq_true_eq] at h
 have hl : ((Go.L.rws es c e).set i.toNat (.av S)).length = e.length := by rw [List.length_set, Go.L.rws_len]
 have := FnMut.delW (rs := (Go.L.rws es c e).set i.toNat (.av S)) (i := i.toNat) (j := j.toNat) hD (by omega) (by omega)
 rw [hl, Int.toNat_of_nonneg h.1.1, Int.toNat_of_nonneg (by omega)] at this
 have e1 : ((Go.L.rws es c e).set i.toNat (.av S)).take i.toNat ++ ((Go.L.rws es c e).set i.toNat (.av S)).drop j.toNat = Go.L.rws es c (e.take i.toNat ++ e.drop j.toNat) := by
  rw [List.take_set_of_le (Nat.le_refl _), List.drop_set_of_lt (by omega)]
  simp [Go.L.rws]
 rw [e1, Go.L.rws_len] at this
 exact this
end Go.Eng

