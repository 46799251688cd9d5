import Derived.Test.YtlpfiiejhikalaaGreatEng11Trks
set_option linter.all false
namespace Go.Eng
open Go Go.RowKit
variable [Dr]
def X.vQ : X -> Exit
 | .normal => .normal
 | .exit id => .exit id
 | .ret => .ret
section
variable {P : Program} {out : Nat -> Prop} {B : Nat -> Prop}
theorem k9 (hng : tm P) (hm : P.follows .mixedOrders = true) {call : dN} (hcall : gL P call) {ops : Array Oper} {id : Nat} {draw : Bool} {st st' : St} (h : gC P call ops.toList draw st = some st')
  {w : World} {Z : List (Option PB)} {a : Act} (hR : Rep out B w Z st a) {Q : Exit -> Act -> World -> Prop}
  (hQ : ∀ a' w' Z', Rep out B w' Z' st' a' -> Ext B w w' (aH out Z st.heap) (aH out Z' st'.heap) Z Z' -> Q .normal a' w') : (Code.region id ops draw).wp P Q a w := by
 cases draw with
 | true => exact vF hng hm hcall h hR hQ
 | false =>
  have h' : e9 P call ops.toList ops.toList st = some st' := h
  refine wp_region ?_
  have := nB hng hcall (Q := Q) ops.toList 0 st st' w Z a (fun j => by simp) h' hR hQ
  rw [List.range_eq_range']
  simpa using this
def yr (a : Act) : ResultVar -> Sem Value
 | .tmp t => pure (a.tmps.getD t undef)
 | .cell x t => do loadVar t (<- asAddr (a.tmps.getD x undef))
theorem rL {w : World} {Z : List (Option PB)} {st : St} {a : Act} (hR : Rep out B w Z st a) {r : ResultVar} {v : AV} (h : ql P st r = some v) :
  ∃ u, (yr a r).run P w = .ok u w /\ Rv w (aH out Z st.heap) Z v u := by
 cases r with
 | tmp t =>
  simp only [ql] at h
  cases h
  exact ⟨_, rfl, iq hR.slots t⟩
 | cell x t =>
  simp only [ql] at h
  have hx := iq hR.slots x
  obtain ⟨u, h1, h2⟩ := pH (P := P) hR.inv hx h
  have hp : ∃ ad, a.tmps.getD x undef = .pointer (some ad) := by
   unfold sg at h
   split at h
   · split at h
     · rename_i n cs hn hcs
       obtain ⟨b, o, e1, _⟩ := lW hR.inv hx hcs
       exact ⟨_, e1⟩
     · cases h
   · obtain ⟨ad, u, e1, _⟩ := oH hR.inv hx h
     exact ⟨_, e1⟩
   · cases h
  obtain ⟨ad, e1⟩ := hp
  rw [e1] at h1
  refine ⟨u, ?_, h2⟩
  simp only [yr, e1]
  simpa [Instr.loadAt, Instr.sureAddr, asAddr] using h1
theorem mf {w : World} {Z : List (Option PB)} {st : St} {a : Act} (hR : Rep out B w Z st a) : ∀ (rs : List ResultVar) (vs : List AV), dx P st rs = some vs ->
  ∃ us : List Value, (rs.mapM (yr a)).run P w = .ok us w /\ RvL w (aH out Z st.heap) Z vs us
 | [], vs, h => by cases h; exact ⟨[], rfl, rfl⟩
 | r :: rs, vs, h => by
  simp only [dx] at h
  split at h
  · rename_i v vs' hv hvs
    cases h
    obtain ⟨u, h1, h2⟩ := rL hR hv
    obtain ⟨us, h3, h4⟩ := mf hR rs vs' hvs
    refine ⟨u :: us, ?_, u, us, rfl, h2, h4⟩
    simp only [List.mapM_cons, Sem.run_bind, h1, Result.andThen_ok, h3, Sem.run_pure]
  · cases h
theorem uL {w : World} {mu : Nat -> Prop} {Z : List (Option PB)} {vs : List AV} {us : List Value} (h : RvL w mu Z vs us) : Rv w mu Z (fR vs) (if h : us.toArray.size = 1 then us.toArray[0] else .tuple us.toArray) := by
 match vs, us, h with
 | [], _, h => cases h; exact ⟨#[], rfl, rfl⟩
 | [v], _, h =>
  obtain ⟨u, us', rfl, h1, rfl⟩ := h
  simpa [fR] using h1
 | v1 :: v2 :: vs, _, h =>
  obtain ⟨u1, us', rfl, h1, u2, us'', rfl, h2, h3⟩ := h
  have : ¬ (u1 :: u2 :: us'').toArray.size = 1 := by simp
  rw [dif_neg this]
  exact ⟨_, rfl, u1, _, rfl, h1, u2, _, rfl, h2, h3⟩
theorem kF {w : World} {Z : List (Option PB)} {st : St} {a : Act} (hR : Rep out B w Z st a) {fn : Func} {vs : List AV} (h : dx P st fn.results.toList = some vs) :
  ∃ u, (results fn a.tmps).run P w = .ok u w /\ Rv w (aH out Z st.heap) Z (fR vs) u := by
 obtain ⟨us, h1, h2⟩ := mf hR _ _ h
 refine ⟨_, ?_, uL h2⟩
 have key : ∀ F : ResultVar -> Sem Value, (∀ r, F r = yr a r) -> (fn.results.toList.mapM F).run P w = .ok us w := by
  intro F hF
  rw [show F = yr a from funext hF]
  exact h1
 unfold results
 rw [Array.mapM_eq_mapM_toList]
 simp only [Sem.run_bind, Sem.run_map]
 rw [key _ (fun r => by cases r <;> rfl)]
 rfl
end
end Go.Eng


namespace Go.Eng
open Go Go.RowKit
variable [Dr]
section
variable {w : World} {mu mu' : Nat -> Prop} {Z Z' : List (Option PB)}
theorem Ext.less (h : ∀ b, mu' b -> mu b) : Ext (fun _ => False) w w mu mu' Z Z := ⟨fun _ _ => rfl, Nat.le_refl _, fun b _ hb => ⟨rfl, fun hb' => hb (h b hb')⟩, fun _ _ h => h, rfl, rfl, rfl, fun _ => Nat.le_refl _⟩
def DL (w : World) (mu mu' : Nat -> Prop) (Z : List (Option PB)) (H : List Blk) (ok : Nat -> Bool) : Prop :=
 ∀ (b : Nat) (p : PB) (cs : List AV), ok b = true -> (H[b]? = some (.own cs) \/ H[b]? = some (.fix cs)) -> Z[b]? = some (some p) -> RvC w mu Z cs p.blk p.off /\ ¬ mu' p.blk
mutual
theorem sV {w' : World} {mu2 : Nat -> Prop} {Z2 : List (Option PB)} : (A : AV) -> (v : Value) -> lJ A = false -> Rv w mu Z A v -> Rv w' mu2 Z2 A v
 | .unk, _, _, _ => trivial
 | .at x, v, _, h => h
 | .agg cs, v, hr, h => by
  obtain ⟨vs, rfl, hv⟩ := h
  exact ⟨vs, rfl, ke cs _ (by simpa [lJ] using hr) hv⟩
 | .tup cs, v, hr, h => by
  obtain ⟨vs, rfl, hv⟩ := h
  exact ⟨vs, rfl, ke cs _ (by simpa [lJ] using hr) hv⟩
 | .fn f fs cs, v, hr, h => by
  obtain ⟨a, c, rfl, h1, h2⟩ := h
  simp only [lJ, Bool.or_eq_false_iff] at hr
  exact ⟨a, c, rfl, ke fs _ hr.1 h1, ke cs _ hr.2 h2⟩
 | .sl .., _, hr, _ | .pp .., _, hr, _ | .hs .., _, hr, _ | .hc .., _, hr, _ | .hp .., _, hr, _ | .mp .., _, hr, _ => by simp [lJ] at hr
theorem ke {w' : World} {mu2 : Nat -> Prop} {Z2 : List (Option PB)} : (cs : List AV) -> (vs : List Value) -> lz cs = false -> RvL w mu Z cs vs -> RvL w' mu2 Z2 cs vs
 | [], vs, _, h => h
 | c :: cs, vs, hr, h => by
  obtain ⟨v, vs', rfl, h1, h2⟩ := h
  simp only [lz, Bool.or_eq_false_iff] at hr
  exact ⟨v, vs', rfl, sV c v hr.1 h1, ke cs vs' hr.2 h2⟩
end
end
section
variable {P : Program} {out : Nat -> Prop} {B : Nat -> Prop} {w : World} {Z : List (Option PB)} {H : List Blk}
theorem Inv.tN (hI : Inv out B w Z H) {b : Nat} {cs : List AV} (h : H[b]? = some (.own cs) \/ H[b]? = some (.fix cs)) :
  Inv out B w Z (upd H b (.fix cs)) /\ Ext B w w (aH out Z H) (aH out Z (upd H b (.fix cs))) Z Z := by
 have hlt : b < H.length := by rcases h with h | h <;> exact aE h
 have hu : upd H b (.fix cs) = H.set b (.fix cs) := by simp [upd, hlt]
 rw [hu]
 rcases h with h | h
 · cases hp : Z[b]? with
   | none => have := List.getElem?_eq_none_iff.1 hp; have := hI.len; omega
   | some op =>
    cases op with
    | some p =>
     obtain ⟨h1, h2⟩ := hI.kO h hp rfl (.fix cs) (w' := w) rfl (fun _ _ => rfl) rfl rfl rfl (fun _ => Nat.le_refl _) (fun hE => RvC.ext hE cs _ _ rfl (fB hI (.inl h) hp))
     exact ⟨h2, h1⟩
    | none =>
     have hmuiff : ∀ x, aH out Z (H.set b (.fix cs)) x -> aH out Z H x := by
      rintro x (ho | ⟨i, y, p, g1, g2, g3, g4⟩)
      · exact .inl ho
      · rcases br g1 with ⟨rfl, rfl⟩ | ⟨_, g1'⟩
        · simp [Blk.eh] at g2
        · exact .inr ⟨i, y, p, g1', g2, g3, g4⟩
     have hE : Ext B w w (aH out Z H) (aH out Z (H.set b (.fix cs))) Z Z := ⟨fun _ _ => rfl, Nat.le_refl _, fun x _ hx => ⟨rfl, fun hx' => hx (hmuiff x hx')⟩, fun _ _ h => h, rfl, rfl, rfl, fun _ => Nat.le_refl _⟩
     refine ⟨⟨by simp [hI.len], hI.bound, hI.out_lt, ?_, ?_, ?_⟩, hE⟩
     · intro i x q b' g1 g2 g3
       rcases br g1 with ⟨rfl, _⟩ | ⟨_, g1'⟩
       · rw [hp] at g2; cases g2
       · exact hI.baseO i x q b' g1' g2 g3
     · intro i x q g1 g2
       rcases br g1 with ⟨rfl, _⟩ | ⟨_, g1'⟩
       · rw [hp] at g2; cases g2
       · exact cS.ext hE (fun _ _ => rfl) (hI.ok i x q g1' g2)
     · intro i j x y q r b' hij g1 g2 g3 g4 g5 g6 g7
       rcases br g1 with ⟨rfl, _⟩ | ⟨_, g1'⟩
       · rw [hp] at g3; cases g3
       · rcases br g2 with ⟨rfl, _⟩ | ⟨_, g2'⟩
         · rw [hp] at g4; cases g4
         · exact hI.sepO i j x y q r b' hij g1' g2' g3 g4 g5 g6 g7
 · have he : H.set b (.fix cs) = H := by
    apply List.ext_getElem?
    intro j
    rw [List.getElem?_set]
    split
    · rename_i hij; subst hij; first | exact h.symm | (rw [if_pos hlt]; exact h.symm)
    · rfl
   rw [he]
   exact ⟨hI, Ext.refl _ _ _⟩
theorem RvW.frz {mu mu2 : Nat -> Prop} (hmu : ∀ c, mu2 c -> mu c) : ∀ (rs : List RC) (ss : Nat -> Option (Nat × Nat × Nat)) (b o : Nat), (∀ (k len es : Nat) (cs : List AV) (q : Nat × Nat × Nat), rs[k]? = some (.row len es cs) -> ss k = some q -> ¬ mu2 q.1) -> RvW w mu Z rs ss b o -> RvC w mu2 Z (rs.map frz) b o
 | [], _, _, _, _, _ => trivial
 | .row len es cs :: rs, ss, b, o, hq, h => by
  obtain ⟨⟨v, h1, h2⟩, h3⟩ := h
  refine ⟨⟨v, h1, ?_, ?_⟩, RvW.frz hmu rs _ b (o + 1) (fun k l' e' c' q e1 e2 => hq (k + 1) l' e' c' q (by simpa using e1) e2) h3⟩
  · rcases h2 with ⟨_, _, rfl⟩ | ⟨q, a, cap, c, e, _, rfl, _⟩ <;> rfl
  · rcases h2 with ⟨rfl, rfl, rfl⟩ | ⟨q, a, cap, c, e, g1, rfl, g3, g4, g5, g6, g7, g0, g8⟩
    · exact .inl ⟨rfl, rfl, rfl, rfl⟩
    · by_cases hc : 0 < cap
      · obtain ⟨rfl, _⟩ := g5 hc
        exact .inr (.inl ⟨_, _, cap, rfl, g3, fun _ => hq 0 len es cs q rfl g1, RvC.ext (Ext.less hmu) cs _ _ rfl g8⟩)
      · obtain rfl : len = 0 := by omega
        exact .inr (.inr ⟨rfl, g0 rfl, a, cap, rfl⟩)
 | .av A :: rs, ss, b, o, hq, h => by
  obtain ⟨⟨v, h1, h2, h3⟩, h4⟩ := h
  exact ⟨⟨v, h1, h2, Rv.ext (Ext.less hmu) A v h3⟩, RvW.frz hmu rs _ b (o + 1) (fun k l' e' c' q e1 e2 => hq (k + 1) l' e' c' q (by simpa using e1) e2) h4⟩
theorem Inv.wX (hI : Inv out B w Z H) {b : Nat} {rs : List RC} (h : H[b]? = some (.rows rs)) :
  Inv out B w Z (upd H b (.fix (rs.map frz))) /\ Ext B w w (aH out Z H) (aH out Z (upd H b (.fix (rs.map frz)))) Z Z := by
 have hlt : b < H.length := aE h
 have hu : upd H b (.fix (rs.map frz)) = H.set b (.fix (rs.map frz)) := by simp [upd, hlt]
 rw [hu]
 have hmuiff : ∀ x, aH out Z (H.set b (.fix (rs.map frz))) x -> aH out Z H x := by
  rintro x (ho | ⟨i, y, p, g1, g2, g3, g4⟩)
  · exact .inl ho
  · rcases br g1 with ⟨rfl, rfl⟩ | ⟨_, g1'⟩
    · simp [Blk.eh] at g2
    · exact .inr ⟨i, y, p, g1', g2, g3, g4⟩
 have hno : ∀ (p : PB) (c : Nat), Z[b]? = some (some p) -> (Blk.rows rs).owns p c -> ¬ aH out Z (H.set b (.fix (rs.map frz))) c := by
  rintro p c hp hc (ho | ⟨i, y, q, g1, g2, g3, g4⟩)
  · exact (hI.baseO b _ p c h hp hc).1 (hI.out_lt _ ho)
  · rcases br g1 with ⟨rfl, rfl⟩ | ⟨hne, g1'⟩
    · simp [Blk.eh] at g2
    · exact hI.sepO i b y _ q p c (fun e => hne e.symm) g1' h g3 hp g2 g4 hc
 have hE : Ext B w w (aH out Z H) (aH out Z (H.set b (.fix (rs.map frz)))) Z Z := ⟨fun _ _ => rfl, Nat.le_refl _, fun x _ hx => ⟨rfl, fun hx' => hx (hmuiff x hx')⟩, fun _ _ h => h, rfl, rfl, rfl, fun _ => Nat.le_refl _⟩
 have hfo : ∀ (p : PB) (c : Nat), (Blk.fix (rs.map frz)).owns p c -> (Blk.rows rs).owns p c := fun p c h => .inl h
 refine ⟨⟨by simp [hI.len], hI.bound, hI.out_lt, ?_, ?_, ?_⟩, hE⟩
 · intro i x q c g1 g2 g3
   rcases br g1 with ⟨rfl, rfl⟩ | ⟨_, g1'⟩
   · exact hI.baseO b _ q c h g2 (hfo _ _ g3)
   · exact hI.baseO i x q c g1' g2 g3
 · intro i x q g1 g2
   rcases br g1 with ⟨rfl, rfl⟩ | ⟨_, g1'⟩
   · exact RvW.frz hmuiff rs _ _ _ (fun k len es cs s e1 e2 => hno q s.1 g2 (.inr ⟨k, len, es, cs, s, e1, e2, rfl⟩)) (hI.ok b _ q h g2).2.1
   · exact cS.ext hE (fun _ _ => rfl) (hI.ok i x q g1' g2)
 · intro i j x y q r c hij g1 g2 g3 g4 g5 g6 g7
   rcases br g1 with ⟨rfl, rfl⟩ | ⟨_, g1'⟩
   · simp [Blk.eh] at g5
   · rcases br g2 with ⟨rfl, rfl⟩ | ⟨_, g2'⟩
     · exact hI.sepO i b x _ q r c hij g1' h g3 g4 g5 g6 (hfo _ _ g7)
     · exact hI.sepO i j x y q r c hij g1' g2' g3 g4 g5 g6 g7
theorem jc : ∀ (l : List Nat) (H' : List Blk) (H0 : List Blk), Inv out B w Z H' -> (∀ b ∈ l, b < H0.length -> (H'[b]? = H0[b]? \/ ∃ x cs, H0[b]? = some x /\ fzC x = some cs /\ H'[b]? = some (.fix cs))) ->
  Inv out B w Z (aO H' (dc H0 l)) /\ Ext B w w (aH out Z H') (aH out Z (aO H' (dc H0 l))) Z Z /\
  (aO H' (dc H0 l)).length = H'.length /\ (∀ b ∈ l, ∀ x cs, H0[b]? = some x -> fzC x = some cs -> (aO H' (dc H0 l))[b]? = some (.fix cs)) /\
  (∀ b, (∀ x cs, b ∈ l -> H0[b]? = some x -> fzC x ≠ some cs) -> (aO H' (dc H0 l))[b]? = H'[b]?)
 | [], H', H0, hI, _ => ⟨hI, Ext.refl _ _ _, rfl, by simp, fun _ _ => rfl⟩
 | b :: l, H', H0, hI, hag => by
  cases hb : H0[b]? with
  | none =>
   have e : dc H0 (b :: l) = dc H0 l := by simp [dc, hb]
   rw [e]
   obtain ⟨h1, h2, h3, h4, h5⟩ := jc l H' H0 hI (fun x hx => hag x (by simp [hx]))
   refine ⟨h1, h2, h3, fun x hx y cs hcs he => ?_, fun x hx => h5 x fun y cs hm => hx y cs (by simp [hm])⟩
   rcases List.mem_cons.1 hx with rfl | hx
   · rw [hb] at hcs; cases hcs
   · exact h4 x hx y cs hcs he
  | some y =>
   cases hy : fzC y with
   | none =>
    have e : dc H0 (b :: l) = dc H0 l := by
     cases y <;> first | (cases hy; done) | simp [dc, hb]
    rw [e]
    obtain ⟨h1, h2, h3, h4, h5⟩ := jc l H' H0 hI (fun x hx => hag x (by simp [hx]))
    refine ⟨h1, h2, h3, fun x hx z cs hcs he => ?_, fun x hx => h5 x fun z cs hm => hx z cs (by simp [hm])⟩
    rcases List.mem_cons.1 hx with rfl | hx
    · rw [hb] at hcs; cases hcs; rw [hy] at he; cases he
    · exact h4 x hx z cs hcs he
   | some cs =>
    have e : dc H0 (b :: l) = (b, .fix cs) :: dc H0 l := by
     cases y <;> first | (cases hy; done) | (simp only [fzC, Option.some.injEq] at hy; subst hy; simp [dc, hb])
    rw [e]
    have hlt : b < H0.length := aE hb
    have hH' : H'[b]? = some y \/ H'[b]? = some (.fix cs) := by
     rcases hag b (by simp) hlt with h | ⟨y', cs', h1, h1', h2⟩
     · left; rw [h]; exact hb
     · rw [hb] at h1; cases h1; rw [hy] at h1'; cases h1'; exact .inr h2
    have hlt' : b < H'.length := by rcases hH' with h | h <;> exact aE h
    obtain ⟨hI1, hE1⟩ : Inv out B w Z (upd H' b (.fix cs)) /\ Ext B w w (aH out Z H') (aH out Z (upd H' b (.fix cs))) Z Z := by
     rcases hH' with h | h
     · cases y with
       | own c => simp only [fzC, Option.some.injEq] at hy; subst hy; exact hI.tN (.inl h)
       | rows rs => simp only [fzC, Option.some.injEq] at hy; subst hy; exact hI.wX h
       | _ => cases hy
     · exact hI.tN (.inr h)
    have hl1 : (upd H' b (.fix cs)).length = H'.length := by rw [cJ (by omega), if_neg (by omega)]
    obtain ⟨h1, h2, h3, h4, h5⟩ := jc l (upd H' b (.fix cs)) H0 hI1 (fun x hx hxl => by
     rw [er (by omega)]
     split
     · rename_i e0; subst e0; exact .inr ⟨y, cs, hb, hy, rfl⟩
     · exact hag x (by simp [hx]) hxl)
    refine ⟨h1, hE1.trans h2, by rw [aO, h3, hl1], fun x hx z cs' hcs' he => ?_, fun x hx => ?_⟩
    · by_cases hxl : x ∈ l
      · exact h4 x hxl z cs' hcs' he
      · rcases List.mem_cons.1 hx with rfl | hx
        · rw [hb] at hcs'; cases hcs'; rw [hy] at he; cases he
          rw [aO, h5 x (fun _ _ hm => (hxl hm).elim), er (by omega), if_pos rfl]
        · exact (hxl hx).elim
    · have hxb : x ≠ b := by rintro rfl; exact hx y cs (by simp) hb hy
      rw [aO, h5 x (fun z cs' hm => hx z cs' (by simp [hm])), er (by omega), if_neg hxb]
theorem Inv.CH {w' : World} (hI : Inv out B w Z H) (hlow : ∀ b, b < w.heap.size -> w'.heap[b]? = w.heap[b]?) (hsz : w.heap.size <= w'.heap.size) (ho : w'.os = w.os) (ht : w'.tape = w.tape) (hu : w'.output = w.output) (hd : Dr.d = true -> w.drawn <= w'.drawn) :
  Inv out B w' Z H /\ Ext B w w' (aH out Z H) (aH out Z H) Z Z := by
 have hE : Ext B w w' (aH out Z H) (aH out Z H) Z Z := ⟨fun b hb => hlow b (hI.bound b hb), hsz, fun b hb h => ⟨hlow b hb, h⟩, fun _ _ h => h, ho, ht, hu, hd⟩
 refine ⟨⟨hI.len, fun b hb => by have := hI.bound b hb; omega, hI.out_lt, fun i x p b h1 h2 h3 => by have := hI.baseO i x p b h1 h2 h3; exact ⟨this.1, by omega⟩, fun i x p h1 h2 => cS.ext hE (fun b hb => hlow _ (hI.baseO i x p b h1 h2 hb).2) (hI.ok i x p h1 h2), hI.sepO⟩, hE⟩
theorem Inv.uJ (hI : Inv out B w Z H) {w' : World} (hlow : ∀ b, b < w.heap.size -> w'.heap[b]? = w.heap[b]?) (hsz : w.heap.size <= w'.heap.size) (ho : w'.os = w.os) (ht : w'.tape = w.tape) (hu : w'.output = w.output) (hd : Dr.d = true -> w.drawn <= w'.drawn)
  {Z' : List (Option PB)} {H' : List Blk} (hl : Z'.length = H'.length) (hpre : ∀ (i : Nat) (p : PB), Z[i]? = some (some p) -> Z'[i]? = some (some p))
  (hs : ∀ (j : Nat) (x : Blk) (p : PB), H'[j]? = some x -> Z'[j]? = some (some p) -> (H[j]? = some x /\ Z[j]? = some (some p)) \/
   (x.plain = true /\ w.heap.size <= p.blk /\ p.blk < w'.heap.size /\ (∀ (i : Nat) (y : Blk) (q : PB), i ≠ j -> H'[i]? = some y -> Z'[i]? = some (some q) -> ¬ y.owns q p.blk) /\
    (Ext B w w' (aH out Z H) (aH out Z' H') Z Z' -> cS w' (aH out Z' H') Z' p x))) :
  Inv out B w' Z' H' /\ Ext B w w' (aH out Z H) (aH out Z' H') Z Z' := by
 have hE : Ext B w w' (aH out Z H) (aH out Z' H') Z Z' := by
  refine ⟨fun b hb => hlow b (hI.bound b hb), hsz, fun b hb hn => ⟨hlow b hb, ?_⟩, hpre, ho, ht, hu, hd⟩
  rintro (hb' | ⟨i, x, p, h1, h2, h3, h4⟩)
  · exact hn (.inl hb')
  · rcases hs i x p h1 h3 with ⟨g1, g3⟩ | ⟨g, _⟩
    · exact hn (.inr ⟨i, x, p, g1, h2, g3, h4⟩)
    · rename_i g0; have := Blk.ly g h4; omega
 refine ⟨⟨hl, fun b hb => by have := hI.bound b hb; omega, hI.out_lt, ?_, ?_, ?_⟩, hE⟩
 · intro i x p b h1 h2 h3
   rcases hs i x p h1 h2 with ⟨g1, g2⟩ | ⟨g0, g1, g2, _⟩
   · have := hI.baseO i x p b g1 g2 h3; exact ⟨this.1, by omega⟩
   · have := Blk.ly g0 h3; exact ⟨fun hb => by have := hI.bound _ hb; omega, by omega⟩
 · intro i x p h1 h2
   rcases hs i x p h1 h2 with ⟨g1, g2⟩ | ⟨_, _, _, _, g⟩
   · exact cS.ext hE (fun b hb => hlow _ (hI.baseO i x p b g1 g2 hb).2) (hI.ok i x p g1 g2)
   · exact g hE
 · intro i j x y p q b hij h1 h2 h3 h4 h5 h6 h7
   rcases hs i x p h1 h3 with ⟨g1, g3⟩ | ⟨g0, _, _, g, _⟩
   · rcases hs j y q h2 h4 with ⟨g2, g4⟩ | ⟨g0, _, _, g, _⟩
     · exact hI.sepO i j x y p q b hij g1 g2 g3 g4 h5 h6 h7
     · have e := Blk.ly g0 h7; subst e; exact g i x p hij h1 h3 h6
   · have e := Blk.ly g0 h6; subst e; exact g j y q (fun e => hij e.symm) h2 h4 h7
end
end Go.Eng


namespace Go.Eng
open Go Go.RowKit
variable [Dr]
section
variable {P : Program} {out : Nat -> Prop} {B : Nat -> Prop} {w w' : World} {Z πG : List (Option PB)} {H H' G : List Blk}
theorem od : aH out [] [] = out := by
 funext b
 apply propext
 constructor
 · rintro (h | ⟨i, x, p, h, _⟩)
   · exact h
   · simp at h
 · exact .inl
theorem wB (hI : Inv out B w Z H) : ∀ b, aH out Z H b -> b < w.heap.size := by
 rintro b (h | ⟨i, x, p, h1, h2, h3, h4⟩)
 · exact hI.bound _ (hI.out_lt b h)
 · exact (hI.baseO i x p b h1 h3 h4).2
theorem Ext.s7 (hI : Inv out B w Z H) {Z' : List (Option PB)} {mu : Nat -> Prop} (hE : Ext B w w mu (aH out Z H) Z' Z) : ∀ b, aH out Z H b -> mu b := by
 intro b hb
 by_cases h : mu b
 · exact h
 · exact ((hE.keep b (wB hI b hb) h).2 hb).elim
end
end Go.Eng

