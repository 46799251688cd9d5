import Derived.Test.YtecdcgfclgmbpaaGreatEng11Mons
set_option linter.all false
namespace Go.Eng
open Go Go.RowKit
variable [Dr]
def X.zK : X -> Exit
 | .normal => .normal
 | .exit id => .exit id
 | .ret => .ret
section
variable {P : Program} {out : Nat -> Prop} {B : Nat -> Prop}
theorem pv (hng : xW P) (hm : P.follows .mixedOrders = true) {call : fp} (hcall : ka P call) {ops : Array Oper} {id : Nat} {draw : Bool} {st st' : St} (h : jR P call ops.toList draw st = some st')
  {w : World} {π : List (Option PB)} {a : Act} (hR : Rep out B w π st a) {Q : Exit -> Act -> World -> Prop}
  (hQ : ∀ a' w' π', Rep out B w' π' st' a' -> Ext B w w' (aP out π st.heap) (aP out π' st'.heap) π π' -> Q .normal a' w') : (Code.region id ops draw).wp P Q a w := by
 cases draw with
 | true => exact zF hng hm hcall h hR hQ
 | false =>
  have h' : gY P call ops.toList ops.toList st = some st' := h
  refine wp_region ?_
  have := rQ hng hcall (Q := Q) ops.toList 0 st st' w π a (fun j => by simp) h' hR hQ
  rw [List.range_eq_range']
  simpa using this
def A6 (a : Act) : ResultVar -> Sem Value
 | .tmp t => pure (a.tmps.getD t undef)
 | .cell x t => do loadVar t (<- asAddr (a.tmps.getD x undef))
theorem wI {w : World} {π : List (Option PB)} {st : St} {a : Act} (hR : Rep out B w π st a) {r : ResultVar} {v : AV} (h : u9 P st r = some v) :
  ∃ u, (A6 a r).run P w = .ok u w /\ Rv w (aP out π st.heap) π v u := by
 cases r with
 | tmp t =>
  simp only [u9] at h
  cases h
  exact ⟨_, rfl, kP hR.slots t⟩
 | cell x t =>
  simp only [u9] at h
  have hx := kP hR.slots x
  obtain ⟨u, h1, h2⟩ := uJ (P := P) hR.inv hx h
  have hp : ∃ ad, a.tmps.getD x undef = .pointer (some ad) := by
   unfold wO at h
   split at h
   · split at h
     · rename_i n cs hn hcs
       obtain ⟨b, o, e1, _⟩ := qb hR.inv hx hcs
       exact ⟨_, e1⟩
     · cases h
   · obtain ⟨ad, u, e1, _⟩ := sZ hR.inv hx h
     exact ⟨_, e1⟩
   · cases h
  obtain ⟨ad, e1⟩ := hp
  rw [e1] at h1
  refine ⟨u, ?_, h2⟩
  simp only [A6, e1]
  simpa [Instr.loadAt, Instr.sureAddr, asAddr] using h1
theorem qw {w : World} {π : List (Option PB)} {st : St} {a : Act} (hR : Rep out B w π st a) : ∀ (rs : List ResultVar) (vs : List AV), eM P st rs = some vs ->
  ∃ us : List Value, (rs.mapM (A6 a)).run P w = .ok us w /\ RvL w (aP out π st.heap) π vs us
 | [], vs, h => by cases h; exact ⟨[], rfl, rfl⟩
 | r :: rs, vs, h => by
  simp only [eM] at h
  split at h
  · rename_i v vs' hv hvs
    cases h
    obtain ⟨u, h1, h2⟩ := wI hR hv
    obtain ⟨us, h3, h4⟩ := qw hR rs vs' hvs
    refine ⟨u :: us, ?_, u, us, rfl, h2, h4⟩
    simp only [List.mapM_cons, Sem.run_bind, h1, Result.andThen_ok, h3, Sem.run_pure]
  · cases h
theorem yT {w : World} {mu : Nat -> Prop} {π : List (Option PB)} {vs : List AV} {us : List Value} (h : RvL w mu π vs us) : Rv w mu π (kX vs) (if h : us.toArray.size = 1 then us.toArray[0] else .tuple us.toArray) := by
 match vs, us, h with
 | [], _, h => cases h; exact ⟨#[], rfl, rfl⟩
 | [v], _, h =>
  obtain ⟨u, us', rfl, h1, rfl⟩ := h
  simpa [kX] using h1
 | v1 :: v2 :: vs, _, h =>
  obtain ⟨u1, us', rfl, h1, u2, us'', rfl, h2, h3⟩ := h
  have : ¬ (u1 :: u2 :: us'').toArray.size = 1 := by simp
  rw [dif_neg this]
  exact ⟨_, rfl, u1, _, rfl, h1, u2, _, rfl, h2, h3⟩
theorem oL {w : World} {π : List (Option PB)} {st : St} {a : Act} (hR : Rep out B w π st a) {fn : Func} {vs : List AV} (h : eM P st fn.results.toList = some vs) :
  ∃ u, (results fn a.tmps).run P w = .ok u w /\ Rv w (aP out π st.heap) π (kX vs) u := by
 obtain ⟨us, h1, h2⟩ := qw hR _ _ h
 refine ⟨_, ?_, yT h2⟩
 have key : ∀ F : ResultVar -> Sem Value, (∀ r, F r = A6 a r) -> (fn.results.toList.mapM F).run P w = .ok us w := by
  intro F hF
  rw [show F = A6 a from funext hF]
  exact h1
 unfold results
 rw [Array.mapM_eq_mapM_toList]
 simp only [Sem.run_bind, Sem.run_map]
 rw [key _ (fun r => by cases r <;> rfl)]
 rfl
end
end Go.Eng


namespace Go.Eng
open Go Go.RowKit
variable [Dr]
section
variable {w : World} {mu mu' : Nat -> Prop} {π π' : List (Option PB)}
theorem Ext.less (h : ∀ b, mu' b -> mu b) : Ext (fun _ => False) w w mu mu' π π := ⟨fun _ _ => rfl, Nat.le_refl _, fun b _ hb => ⟨rfl, fun hb' => hb (h b hb')⟩, fun _ _ h => h, rfl, rfl, rfl, fun _ => Nat.le_refl _⟩
def Cd (w : World) (mu mu' : Nat -> Prop) (π : List (Option PB)) (H : List Blk) (ok : Nat -> Bool) : Prop :=
 ∀ (b : Nat) (p : PB) (cs : List AV), ok b = true -> (H[b]? = some (.own cs) \/ H[b]? = some (.fix cs)) -> π[b]? = some (some p) -> RvC w mu π cs p.blk p.off /\ ¬ mu' p.blk
mutual
theorem xk {w' : World} {mu2 : Nat -> Prop} {π2 : List (Option PB)} : (A : AV) -> (v : Value) -> pI A = false -> Rv w mu π A v -> Rv w' mu2 π2 A v
 | .unk, _, _, _ => trivial
 | .at x, v, _, h => h
 | .agg cs, v, hr, h => by
  obtain ⟨vs, rfl, hv⟩ := h
  exact ⟨vs, rfl, nE cs _ (by simpa [pI] using hr) hv⟩
 | .tup cs, v, hr, h => by
  obtain ⟨vs, rfl, hv⟩ := h
  exact ⟨vs, rfl, nE cs _ (by simpa [pI] using hr) hv⟩
 | .fn f fs cs, v, hr, h => by
  obtain ⟨a, c, rfl, h1, h2⟩ := h
  simp only [pI, Bool.or_eq_false_iff] at hr
  exact ⟨a, c, rfl, nE fs _ hr.1 h1, nE cs _ hr.2 h2⟩
 | .sl .., _, hr, _ | .pp .., _, hr, _ | .hs .., _, hr, _ | .hp .., _, hr, _ | .mp .., _, hr, _ => by simp [pI] at hr
theorem nE {w' : World} {mu2 : Nat -> Prop} {π2 : List (Option PB)} : (cs : List AV) -> (vs : List Value) -> pS cs = false -> RvL w mu π cs vs -> RvL w' mu2 π2 cs vs
 | [], vs, _, h => h
 | c :: cs, vs, hr, h => by
  obtain ⟨v, vs', rfl, h1, h2⟩ := h
  simp only [pS, Bool.or_eq_false_iff] at hr
  exact ⟨v, vs', rfl, xk c v hr.1 h1, nE cs vs' hr.2 h2⟩
end
end
section
variable {P : Program} {out : Nat -> Prop} {B : Nat -> Prop} {w : World} {π : List (Option PB)} {H : List Blk}
theorem Inv.Ai (hI : Inv out B w π H) {b : Nat} {cs : List AV} (h : H[b]? = some (.own cs) \/ H[b]? = some (.fix cs)) :
  Inv out B w π (upd H b (.fix cs)) /\ Ext B w w (aP out π H) (aP out π (upd H b (.fix cs))) π π := by
 have hlt : b < H.length := by rcases h with h | h <;> exact aU h
 have hu : upd H b (.fix cs) = H.set b (.fix cs) := by simp [upd, hlt]
 rw [hu]
 rcases h with h | h
 · cases hp : π[b]? with
   | none => have := List.getElem?_eq_none_iff.1 hp; have := hI.len; omega
   | some op =>
    cases op with
    | some p =>
     obtain ⟨h1, h2⟩ := hI.vL h hp rfl (.fix cs) (w' := w) rfl (fun _ _ => rfl) rfl rfl rfl (fun _ => Nat.le_refl _) (fun hE => RvC.ext hE cs _ _ rfl (j9 hI (.inl h) hp))
     exact ⟨h2, h1⟩
    | none =>
     have hmuiff : ∀ x, aP out π (H.set b (.fix cs)) x -> aP out π H x := by
      rintro x (ho | ⟨i, y, p, g1, g2, g3, g4⟩)
      · exact .inl ho
      · rcases ig g1 with ⟨rfl, rfl⟩ | ⟨_, g1'⟩
        · simp [Blk.jq] at g2
        · exact .inr ⟨i, y, p, g1', g2, g3, g4⟩
     have hE : Ext B w w (aP out π H) (aP out π (H.set b (.fix cs))) π π := ⟨fun _ _ => rfl, Nat.le_refl _, fun x _ hx => ⟨rfl, fun hx' => hx (hmuiff x hx')⟩, fun _ _ h => h, rfl, rfl, rfl, fun _ => Nat.le_refl _⟩
     refine ⟨⟨by simp [hI.len], hI.bound, hI.out_lt, ?_, ?_, ?_⟩, hE⟩
     · intro i x q g1 g2 g3
       rcases ig g1 with ⟨rfl, _⟩ | ⟨_, g1'⟩
       · rw [hp] at g2; cases g2
       · exact hI.base i x q g1' g2 g3
     · intro i x q g1 g2
       rcases ig g1 with ⟨rfl, _⟩ | ⟨_, g1'⟩
       · rw [hp] at g2; cases g2
       · exact iV.ext hE (fun _ => rfl) (hI.ok i x q g1' g2)
     · intro i j x y q r hij g1 g2 g3 g4 g5 g6
       rcases ig g1 with ⟨rfl, _⟩ | ⟨_, g1'⟩
       · rw [hp] at g3; cases g3
       · rcases ig g2 with ⟨rfl, _⟩ | ⟨_, g2'⟩
         · rw [hp] at g4; cases g4
         · exact hI.sep i j x y q r hij g1' g2' g3 g4 g5 g6
 · have he : H.set b (.fix cs) = H := by
    apply List.ext_getElem?
    intro j
    rw [List.getElem?_set]
    split
    · rename_i hij; subst hij; first | exact h.symm | (rw [if_pos hlt]; exact h.symm)
    · rfl
   rw [he]
   exact ⟨hI, Ext.refl _ _ _⟩
theorem mz : ∀ (l : List Nat) (H' : List Blk) (H0 : List Blk), Inv out B w π H' -> (∀ b ∈ l, b < H0.length -> (H'[b]? = H0[b]? \/ ∃ cs, H0[b]? = some (.own cs) /\ H'[b]? = some (.fix cs))) ->
  Inv out B w π (aR H' (ef H0 l)) /\ Ext B w w (aP out π H') (aP out π (aR H' (ef H0 l))) π π /\
  (aR H' (ef H0 l)).length = H'.length /\ (∀ b ∈ l, ∀ cs, H0[b]? = some (.own cs) -> (aR H' (ef H0 l))[b]? = some (.fix cs)) /\
  (∀ b, (∀ cs, b ∈ l -> H0[b]? ≠ some (.own cs)) -> (aR H' (ef H0 l))[b]? = H'[b]?)
 | [], H', H0, hI, _ => ⟨hI, Ext.refl _ _ _, rfl, by simp, fun _ _ => rfl⟩
 | b :: l, H', H0, hI, hag => by
  cases hb : H0[b]? with
  | none =>
   have e : ef H0 (b :: l) = ef H0 l := by simp [ef, hb]
   rw [e]
   obtain ⟨h1, h2, h3, h4, h5⟩ := mz l H' H0 hI (fun x hx => hag x (by simp [hx]))
   refine ⟨h1, h2, h3, fun x hx cs hcs => ?_, fun x hx => h5 x fun cs hm => hx cs (by simp [hm])⟩
   rcases List.mem_cons.1 hx with rfl | hx
   · rw [hb] at hcs; cases hcs
   · exact h4 x hx cs hcs
  | some y =>
   have other : (∀ cs, y ≠ .own cs) -> ef H0 (b :: l) = ef H0 l := by
    intro hy
    cases y with
    | own cs => exact (hy cs rfl).elim
    | _ => simp [ef, hb]
   by_cases hy : ∃ cs, y = .own cs
   · obtain ⟨cs, rfl⟩ := hy
     have e : ef H0 (b :: l) = (b, .fix cs) :: ef H0 l := by simp [ef, hb]
     rw [e]
     have hlt : b < H0.length := aU hb
     have hH' : H'[b]? = some (.own cs) \/ H'[b]? = some (.fix cs) := by
      rcases hag b (by simp) hlt with h | ⟨cs', h1, h2⟩
      · left; rw [h]; exact hb
      · rw [hb] at h1; cases h1; exact .inr h2
     have hlt' : b < H'.length := by rcases hH' with h | h <;> exact aU h
     obtain ⟨hI1, hE1⟩ := hI.Ai hH'
     have hl1 : (upd H' b (.fix cs)).length = H'.length := by rw [dQ (by omega), if_neg (by omega)]
     obtain ⟨h1, h2, h3, h4, h5⟩ := mz l (upd H' b (.fix cs)) H0 hI1 (fun x hx hxl => by
      rw [gE (by omega)]
      split
      · rename_i e0; subst e0; exact .inr ⟨cs, hb, rfl⟩
      · exact hag x (by simp [hx]) hxl)
     refine ⟨h1, hE1.trans h2, by rw [aR, h3, hl1], fun x hx cs' hcs' => ?_, fun x hx => ?_⟩
     · by_cases hxl : x ∈ l
       · exact h4 x hxl cs' hcs'
       · rcases List.mem_cons.1 hx with rfl | hx
         · rw [hb] at hcs'; cases hcs'
           rw [aR, h5 x (fun _ hm => (hxl hm).elim), gE (by omega), if_pos rfl]
         · exact (hxl hx).elim
     · have hxb : x ≠ b := by rintro rfl; exact hx cs (by simp) hb
       rw [aR, h5 x (fun cs' hm => hx cs' (by simp [hm])), gE (by omega), if_neg hxb]
   · have hy' : ∀ cs, y ≠ .own cs := fun cs e => hy ⟨cs, e⟩
     rw [other hy']
     obtain ⟨h1, h2, h3, h4, h5⟩ := mz l H' H0 hI (fun x hx => hag x (by simp [hx]))
     refine ⟨h1, h2, h3, fun x hx cs hcs => ?_, fun x hx => h5 x fun cs hm => hx cs (by simp [hm])⟩
     rcases List.mem_cons.1 hx with rfl | hx
     · rw [hb] at hcs; cases hcs; exact (hy' cs rfl).elim
     · exact h4 x hx cs hcs
theorem Inv.Em {w' : World} (hI : Inv out B w π H) (hlow : ∀ b, b < w.heap.size -> w'.heap[b]? = w.heap[b]?) (hsz : w.heap.size <= w'.heap.size) (ho : w'.os = w.os) (ht : w'.tape = w.tape) (hu : w'.output = w.output) (hd : Dr.d = true -> w.drawn <= w'.drawn) :
  Inv out B w' π H /\ Ext B w w' (aP out π H) (aP out π H) π π := by
 have hE : Ext B w w' (aP out π H) (aP out π H) π π := ⟨fun b hb => hlow b (hI.bound b hb), hsz, fun b hb h => ⟨hlow b hb, h⟩, fun _ _ h => h, ho, ht, hu, hd⟩
 refine ⟨⟨hI.len, fun b hb => by have := hI.bound b hb; omega, hI.out_lt, fun i x p h1 h2 h3 => by have := hI.base i x p h1 h2 h3; exact ⟨this.1, by omega⟩, fun i x p h1 h2 => iV.ext hE (fun hl => hlow _ (hI.base i x p h1 h2 hl).2) (hI.ok i x p h1 h2), hI.sep⟩, hE⟩
end
end Go.Eng


namespace Go.Eng
open Go Go.RowKit
variable [Dr]
def yh (P : Program) (f : FuncId) (F : List AV -> Option AV) : Prop :=
 ∀ args r, F args = some r -> ∀ (out : Nat -> Prop) (w : World) (vs : List Value), (∀ b, out b -> b < w.heap.size) -> RvL w out [] args vs ->
  Calls P f vs.toArray w fun e w' => ∃ u, e = .returned u /\ Ext (Lo w.heap.size) w w' out out [] [] /\ Rv w' out [] r u
section
variable {P : Program} {out : Nat -> Prop} {B : Nat -> Prop} {w w' : World} {π πG : List (Option PB)} {H H' G : List Blk}
theorem ti : aP out [] [] = out := by
 funext b
 apply propext
 constructor
 · rintro (h | ⟨i, x, p, h, _⟩)
   · exact h
   · simp at h
 · exact .inl
theorem zM (hI : Inv out B w π H) : ∀ b, aP out π H b -> b < w.heap.size := by
 rintro b (h | ⟨i, x, p, h1, h2, h3, h4⟩)
 · exact hI.bound _ (hI.out_lt b h)
 · have := hI.base i x p h1 h3 (Blk.cm h2); omega
theorem Ext.Am (hI : Inv out B w π H) {π' : List (Option PB)} {mu : Nat -> Prop} (hE : Ext B w w mu (aP out π H) π' π) : ∀ b, aP out π H b -> mu b := by
 intro b hb
 by_cases h : mu b
 · exact h
 · exact ((hE.keep b (zM hI b hb) h).2 hb).elim
end
end Go.Eng

