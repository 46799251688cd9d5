import Derived.Test.YtndahnebnggdmaaGreatSc11knceefag
import Derived.Test.YtndahnebnggdmaaGreatSc11knceefag
set_option linter.all false
set_option linter.unusedVariables false
namespace Go.Eng
open Go Go.RowKit
variable [Dr]
def nlA : Option (List Int) → AV
 | none => .at (.slice none 0 0)
 | some l => .sl false (l.flatMap (iC .i64)) l.length
omit [Dr] in
theorem nlA_t {r : Option (List Int)} (h : r.isNone = true) : nlA r = .at (.slice none 0 0) := by
 cases r with
 | none => rfl
 | some l => cases h
omit [Dr] in
theorem nlA_f {r : Option (List Int)} (h : r.isNone = false) : nlA r = .sl false ((r.getD []).flatMap (iC .i64)) (r.getD []).length := by
 cases r with
 | none => cases h
 | some l => rfl
omit [Dr] in
theorem nlA_rf (ρ : Nat → Option Nat) (l : Option (List Int)) : rfA ρ (nlA l) = nlA l := by cases l <;> simp [nlA, rfA]
section
variable {K : Nat} {P : Program}
theorem Rep.slot {out B : Nat → Prop} {w : World} {π : List (Option PB)} {s : List AV} {h : List Blk} {act : Act} (hR : Rep out B w π ⟨s, h⟩ act) (t : Nat) {A' : AV} (hA' : Rv w (muOf out π h) π A' (act.tmps.getD t undef)) : Rep out B w π ⟨s.set t A', h⟩ act := by
 refine ⟨hR.defers, ?_, hR.inv⟩
 have hss := hR.slots
 simp only at hss ⊢
 by_cases hi : t < s.length
 · obtain ⟨v, g1, g2⟩ := RvL.get _ _ t s[t] hss (List.getElem?_eq_getElem hi)
   have e2 : act.tmps.getD t undef = v := by
    rw [Array.getElem?_toList] at g1
    rw [Array.getD_eq_getD_getElem?, g1]; rfl
   rw [e2] at hA'
   have hst := RvL.set s act.tmps.toList t A' v hss hA'
   have : act.tmps.toList.set t v = act.tmps.toList := by
    apply List.ext_getElem?
    intro j
    rw [List.getElem?_set]
    split
    · rename_i hij; subst hij
      rw [if_pos (getElem?_lt g1)]; exact g1.symm
    · rfl
   rw [this] at hst; exact hst
 · rw [List.set_eq_of_length_le (by omega)]; exact hss
theorem CQ.reveal {k : List Fr} {F : X → St → Prop} {d : Code} (t : Nat) {b len es : Nat} {s : List AV} {h : List Blk} (h1 : len = 0 → CQ K P (.c d :: k) F .normal ⟨s.set t (.at (.slice none 0 0)), h⟩) (h2 : ∀ cap, CQ K P (.c d :: k) F .normal ⟨s.set t (.hc b 0 len cap es), h⟩)
  (hs : getS s t = .hs b 0 len es := by kernel_rfl) : CQ K P (.c d :: k) F .normal ⟨s, h⟩ := by
 intro out B w π act R hR hr
 have hv := slot_sound hR.slots t
 rw [hs] at hv
 rcases hv with ⟨e1, e3⟩ | ⟨p, a, cap, e⟩
 · exact h1 e1 out B w π act R (hR.slot t e3) hr
 · exact h2 cap out B w π act R (hR.slot t ⟨p, a, e⟩) hr
theorem Wk.hcs (i : Nat) {b off len cap es : Nat} {s : List AV} {h : List Blk} (hs : getS s i = .hc b off len cap es := by kernel_rfl) : Wk K ⟨s, h⟩ ⟨s.set i (.hs b off len es), h⟩ := Wk.slot i fun out B w π v hI hv => by
 have e : s.getD i .unk = .hc b off len cap es := by rw [← hs, getS_eq]
 rw [e] at hv
 obtain ⟨p, a, h1⟩ := hv
 exact .inr ⟨p, a, cap, h1⟩
theorem Wk.nn (i : Nat) {cs : List AV} {len : Nat} {s : List AV} {h : List Blk} (hl : 0 < len) (hs : getS s i = .sl true cs len := by kernel_rfl) : Wk K ⟨s, h⟩ ⟨s.set i (.sl false cs len), h⟩ := Wk.slot i fun out B w π v hI hv => by
 have e : s.getD i .unk = .sl true cs len := by rw [← hs, getS_eq]
 rw [e] at hv
 rcases hv with ⟨_, h0, _⟩ | hv
 · omega
 · exact .inr hv
theorem CQ.fork {a d : Code} {k : List Fr} {F : X → St → Prop} {st : St} (T : St) (h1 : CQ K P (.c d :: k) F .normal T) (h2 : ∀ (k' : List Fr) (F' : X → St → Prop), CQ K P (.c d :: k') F' .normal T → CQ K P (.c a :: .c d :: k') F' .normal st) : CQ K P (.c a :: .c d :: k) F .normal st := h2 _ _ h1
theorem EK.lessK {K' : Nat} (hK : K' ≤ K) {B : Nat → Prop} {w w' : World} {mu mu' : Nat → Prop} {π π' : List (Option PB)} (h : EK K B w w' mu mu' π π') : EK K' B w w' mu mu' π π' :=
 ⟨h.low, h.size, h.keep, h.os, h.tape, h.output, fun i hi => h.pin i (Nat.lt_of_lt_of_le hi hK), h.drawn⟩
theorem SC.lessK {K' : Nat} (hK : K' ≤ K) {st : St} {c : Code} {Q : X → St → Prop} (h : SC K P st c Q) : SC K' P st c Q := fun out B w π a R hR hr => h out B w π a R hR fun x st' a' w' π' hq hR' hE => hr x st' a' w' π' hq hR' (hE.lessK hK)
theorem Wk.lessK {K' : Nat} (hK : K' ≤ K) {a b : St} (h : Wk K a b) : Wk K' a b := fun out B w π x hR => by
 obtain ⟨π', h1, h2, h3⟩ := h out B w π x hR
 exact ⟨π', h1, h2, fun i hi => h3 i (Nat.lt_of_lt_of_le hi hK)⟩
theorem FinMW.lessK {K' : Nat} (hK : K' ≤ K) {rs : List ResultVar} {us us' : List AV} {H1 H2 : List Blk} {x : X} {st : St} (h : FinMW K P rs us H1 x st) (hw : Wk K' ⟨us, H1⟩ ⟨us', H2⟩) : FinMW K' P rs us' H2 x st := by
 obtain ⟨T, h1, h2⟩ := h
 refine ⟨T, h1.lessK hK, ?_⟩
 cases x with
 | exit j => exact h2
 | normal => obtain ⟨vs, g1, g2⟩ := h2; exact ⟨vs, g1, (g2.lessK hK).trans hw⟩
 | ret => obtain ⟨vs, g1, g2⟩ := h2; exact ⟨vs, g1, (g2.lessK hK).trans hw⟩
end
section
variable {P : Program}
theorem buildEmpty_run {t e : TypeId} {n : Nat} (hu : P.underlying t = some (.slice e)) (hn : tSize P e = some n) (w : World) :
  ∃ a w', (do pure (Next.value (← Instr.buildSlice t 0 #[])) : Sem Next).run P w = .ok (.value (.slice (some a) 0 0)) w' := by
 have h : (do pure (Next.value (← Instr.buildSlice t 0 #[])) : Sem Next).run P w = .ok (.value (.slice (some ⟨w.heap.size, 0, none⟩) 0 0)) (w.alloc (.cells #[] e)) := by
  simp only [Instr.buildSlice, Sem.run_bind, run_underlying hu, Result.andThen_ok, run_size hn, Sem.run_ite, Nat.zero_mul, Sem.run_pure]
  rw [if_neg (by decide), if_pos trivial]
  have r : Instr.fill (fun i => some (i * n, n)) (Array.map (fun x => (#[] : Array Value)[x % (#[] : Array Value).size]!) (Array.range 0)) ([] : List (Nat × Value)) = some #[] := by simp [Instr.fill]
  rw [r]
  rfl
 exact ⟨_, _, h⟩
theorem CQ.emptyS {K : Nat} {k : List Fr} {F : X → St → Prop} (G : Fine P) {i dst : Nat} {t e ty : TypeId} {pos : String} {n : Nat} {z : List AV} {l : List Oper} {s : List AV} {h : List Blk} (hu : P.underlying t = some (.slice e)) (hn : tSize P e = some n) (hz : tZero P e = some z) (h2 : z.length = n) (h3 : z.all isCell = true)
  (he : EVO P (callOf []) (⟨some dst, .buildSlice t 0 #[], ty, pos, #[], none⟩ :: l) l (putA s (some dst) (.sl false [] 0)) (updAll h [(h.length, .own [])]) (fun s' h' => CQ K P k F .normal ⟨s', h'⟩)) :
  CQ K P (.c (.region i (⟨some dst, .buildSlice t 0 #[], ty, pos, #[], none⟩ :: l).toArray false) :: k) F .normal ⟨s, h⟩ := by
 intro out B w π act R hR hr
 obtain ⟨st', e', hq⟩ := he
 refine wp_region ?_
 rw [List.range_eq_range']
 simp only [List.size_toArray, List.length_cons, List.range'_succ, wpOps, List.getElem?_toArray, List.getElem?_cons_zero]
 rw [if_pos (wantedA_sound hR.slots (rfl : wantedA _ _ _ = some true))]
 refine .inl ?_
 unfold Oper.wp
 obtain ⟨nx, u, w', π', g1, g2, g3, g4, g5, _⟩ := buildSlice_sound (P := P) hR.inv (nid := h.length) (Nat.le_refl _) (pi_none hR.inv) (evA_sound hR.slots) (t := t) (e := e) (len := 0) (n := n) (z := z) (cs := []) (parts := #[]) hu hn hz (by simp) h2 h3 rfl
 obtain ⟨a, w2, g6⟩ := buildEmpty_run hu hn w
 simp only [Array.map_empty] at g1
 rw [g6] at g1
 cases g1
 simp only [execOp, Array.map_empty]
 rw [g6]
 have hu2 : u = .slice (some a) 0 0 := by
  rcases g2 with g | ⟨g, _⟩
  · cases g; rfl
  · cases g
 subst hu2
 have hR' := Rep.ext (dst := some dst) hR.defers hR.slots g3 g4 (A := .sl false [] 0) (.inr (.inr ⟨rfl, rfl, a, 0, rfl⟩))
 refine evalOps_sound G.ng callOf_nil (ops := (_ :: l).toArray) (Q := R) l 1 _ st' w' π' _ (fun j => by simp [Nat.add_comm 1 j]) e' hR' fun a'' w'' π'' hR'' hE'' => ?_
 exact hr .normal st' a'' w'' π'' hq hR'' (g3.trans hE'').ek
end
section
variable {α : Type} {c : α → List AV} {l : List α} {x : α} {H : List Blk} {nid by_ b cap : Nat} {X : AV}
omit [Dr] in
theorem app_hcI (hc : ∀ x, (c x).length = 1) (hin : l.length + 1 ≤ cap) (h2 : decide ((l.length + 1) * by_ ≤ 140737488355328) = true) (h3 : decide (l.length + 1 ≤ 4611686018427387904) = true) (hb : H[b]? = some (.own (l.flatMap c)) := by kernel_rfl) (hX : sliceCells H 1 X = some (c x, 1) := by kernel_rfl) :
  appendA H nid 1 by_ (.hc b 0 l.length cap 1) X = some (.eff (.hs b 0 (l ++ [x]).length 1) [(b, .own ((l ++ [x]).flatMap c))]) := by
 have e : (l.flatMap c).length = l.length := by rw [flat_len hc, Nat.mul_one]
 have e2 : (l.flatMap c).take l.length = l.flatMap c := by rw [← e, List.take_length]
 have h4 : decide (l.length + 1 ≤ cap) = true := decide_eq_true hin
 simp [appendA, hX, hb, of_decide_eq_true h2, of_decide_eq_true h3, e, hin, e2]
omit [Dr] in
theorem app_hcN (hc : ∀ x, (c x).length = 1) (hin : ¬ l.length + 1 ≤ cap) (h2 : decide ((l.length + 1) * by_ ≤ 140737488355328) = true) (h3 : decide (l.length + 1 ≤ 4611686018427387904) = true) (hb : H[b]? = some (.own (l.flatMap c)) := by kernel_rfl) (hX : sliceCells H 1 X = some (c x, 1) := by kernel_rfl) :
  appendA H nid 1 by_ (.hc b 0 l.length cap 1) X = some (.eff (.hs nid 0 (l ++ [x]).length 1) [(nid, .own ((l ++ [x]).flatMap c))]) := by
 have e : (l.flatMap c).length = l.length := by rw [flat_len hc, Nat.mul_one]
 have e2 : (l.flatMap c).take l.length = l.flatMap c := by rw [← e, List.take_length]
 simp [appendA, hX, hb, of_decide_eq_true h2, of_decide_eq_true h3, e, hin, e2]
omit [Dr] in
theorem app_nilN (hl : l.length = 0) (h2 : decide ((l.length + 1) * by_ ≤ 140737488355328) = true) (hX : sliceCells H 1 X = some (c x, 1) := by kernel_rfl) :
  appendA H nid 1 by_ (.at (.slice none 0 0)) X = some (.eff (.hs nid 0 (l ++ [x]).length 1) [(nid, .own ((l ++ [x]).flatMap c))]) := by
 obtain rfl := List.length_eq_zero_iff.1 hl
 have h : by_ ≤ 140737488355328 := by simpa using h2
 simp [appendA, hX, h]
end
end Go.Eng

