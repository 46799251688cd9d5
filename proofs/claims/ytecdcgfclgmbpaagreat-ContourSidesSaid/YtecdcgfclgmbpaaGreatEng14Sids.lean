import Derived.Test.YtecdcgfclgmbpaaGreatEng11Sids
set_option linter.all false
namespace Go.Eng
open Go Go.RowKit
variable [Dr]
def X.zG : X -> Exit
 | .normal => .normal
 | .exit id => .exit id
 | .ret => .ret
section
variable {P : Program} {out : Nat -> Prop} {B : Nat -> Prop}
theorem nI (hng : xt P) (hm : P.follows .mixedOrders = true) {call : eH} (hcall : jh P call) {ops : Array Oper} {id : Nat} {draw : Bool} {st st' : St} (h : iY P call ops.toList draw st = some st')
  {w : World} {Z : List (Option PB)} {a : Act} (hR : Rep out B w Z st a) {Q : Exit -> Act -> World -> Prop}
  (hQ : ∀ a' w' Z', Rep out B w' Z' st' a' -> Ext B w w' (aM out Z st.heap) (aM out Z' st'.heap) Z Z' -> Q .normal a' w') : (Code.region id ops draw).wp P Q a w := by
 cases draw with
 | true => exact zq hng hm hcall h hR hQ
 | false =>
  have h' : ga P call ops.toList ops.toList st = some st' := h
  refine wp_region ?_
  have := qR hng hcall (Q := Q) ops.toList 0 st st' w Z a (fun j => by simp) h' hR hQ
  rw [List.range_eq_range']
  simpa using this
def CK (a : Act) : ResultVar -> Sem Value
 | .tmp t => pure (a.tmps.getD t undef)
 | .cell x t => do loadVar t (<- asAddr (a.tmps.getD x undef))
theorem vH {w : World} {Z : List (Option PB)} {st : St} {a : Act} (hR : Rep out B w Z st a) {r : ResultVar} {v : AV} (h : uv P st r = some v) :
  ∃ u, (CK a r).run P w = .ok u w /\ Rv w (aM out Z st.heap) Z v u := by
 cases r with
 | tmp t =>
  simp only [uv] at h
  cases h
  exact ⟨_, rfl, jE hR.slots t⟩
 | cell x t =>
  simp only [uv] at h
  have hx := jE hR.slots x
  obtain ⟨u, h1, h2⟩ := tL (P := P) hR.inv hx h
  have hp : ∃ ad, a.tmps.getD x undef = .pointer (some ad) := by
   unfold wP at h
   split at h
   · split at h
     · rename_i n cs hn hcs
       obtain ⟨b, o, e1, _⟩ := pn hR.inv hx hcs
       exact ⟨_, e1⟩
     · cases h
   · obtain ⟨ad, u, e1, _⟩ := sB hR.inv hx h
     exact ⟨_, e1⟩
   · cases h
  obtain ⟨ad, e1⟩ := hp
  rw [e1] at h1
  refine ⟨u, ?_, h2⟩
  simp only [CK, e1]
  simpa [Instr.loadAt, Instr.sureAddr, asAddr] using h1
theorem pM {w : World} {Z : List (Option PB)} {st : St} {a : Act} (hR : Rep out B w Z st a) : ∀ (rs : List ResultVar) (vs : List AV), dM P st rs = some vs ->
  ∃ us : List Value, (rs.mapM (CK a)).run P w = .ok us w /\ RvL w (aM out Z st.heap) Z vs us
 | [], vs, h => by cases h; exact ⟨[], rfl, rfl⟩
 | r :: rs, vs, h => by
  simp only [dM] at h
  split at h
  · rename_i v vs' hv hvs
    cases h
    obtain ⟨u, h1, h2⟩ := vH hR hv
    obtain ⟨us, h3, h4⟩ := pM hR rs vs' hvs
    refine ⟨u :: us, ?_, u, us, rfl, h2, h4⟩
    simp only [List.mapM_cons, Sem.run_bind, h1, Result.andThen_ok, h3, Sem.run_pure]
  · cases h
theorem yU {w : World} {mu : Nat -> Prop} {Z : List (Option PB)} {vs : List AV} {us : List Value} (h : RvL w mu Z vs us) : Rv w mu Z (iE vs) (if h : us.toArray.size = 1 then us.toArray[0] else .tuple us.toArray) := by
 match vs, us, h with
 | [], _, h => cases h; exact ⟨#[], rfl, rfl⟩
 | [v], _, h =>
  obtain ⟨u, us', rfl, h1, rfl⟩ := h
  simpa [iE] using h1
 | v1 :: v2 :: vs, _, h =>
  obtain ⟨u1, us', rfl, h1, u2, us'', rfl, h2, h3⟩ := h
  have : ¬ (u1 :: u2 :: us'').toArray.size = 1 := by simp
  rw [dif_neg this]
  exact ⟨_, rfl, u1, _, rfl, h1, u2, _, rfl, h2, h3⟩
theorem nu {w : World} {Z : List (Option PB)} {st : St} {a : Act} (hR : Rep out B w Z st a) {fn : Func} {vs : List AV} (h : dM P st fn.results.toList = some vs) :
  ∃ u, (results fn a.tmps).run P w = .ok u w /\ Rv w (aM out Z st.heap) Z (iE vs) u := by
 obtain ⟨us, h1, h2⟩ := pM hR _ _ h
 refine ⟨_, ?_, yU h2⟩
 have key : ∀ F : ResultVar -> Sem Value, (∀ r, F r = CK a r) -> (fn.results.toList.mapM F).run P w = .ok us w := by
  intro F hF
  rw [show F = CK a from funext hF]
  exact h1
 unfold results
 rw [Array.mapM_eq_mapM_toList]
 simp only [Sem.run_bind, Sem.run_map]
 rw [key _ (fun r => by cases r <;> rfl)]
 rfl
end
end Go.Eng


namespace Go.Eng
open Go Go.RowKit
variable [Dr]
section
variable {w : World} {mu mu' : Nat -> Prop} {Z Z' : List (Option PB)}
theorem Ext.less (h : ∀ b, mu' b -> mu b) : Ext (fun _ => False) w w mu mu' Z Z := ⟨fun _ _ => rfl, Nat.le_refl _, fun b _ hb => ⟨rfl, fun hb' => hb (h b hb')⟩, fun _ _ h => h, rfl, rfl, rfl, fun _ => Nat.le_refl _⟩
def BF (w : World) (mu mu' : Nat -> Prop) (Z : List (Option PB)) (H : List Blk) (ok : Nat -> Bool) : Prop :=
 ∀ (b : Nat) (p : PB) (cs : List AV), ok b = true -> (H[b]? = some (.own cs) \/ H[b]? = some (.fix cs)) -> Z[b]? = some (some p) -> RvC w mu Z cs p.blk p.off /\ ¬ mu' p.blk
mutual
theorem wG {w' : World} {mu2 : Nat -> Prop} {Z2 : List (Option PB)} : (A : AV) -> (v : Value) -> oS A = false -> Rv w mu Z A v -> Rv w' mu2 Z2 A v
 | .unk, _, _, _ => trivial
 | .at x, v, _, h => h
 | .agg cs, v, hr, h => by
  obtain ⟨vs, rfl, hv⟩ := h
  exact ⟨vs, rfl, mq cs _ (by simpa [oS] using hr) hv⟩
 | .tup cs, v, hr, h => by
  obtain ⟨vs, rfl, hv⟩ := h
  exact ⟨vs, rfl, mq cs _ (by simpa [oS] using hr) hv⟩
 | .fn f fs cs, v, hr, h => by
  obtain ⟨a, c, rfl, h1, h2⟩ := h
  simp only [oS, Bool.or_eq_false_iff] at hr
  exact ⟨a, c, rfl, mq fs _ hr.1 h1, mq cs _ hr.2 h2⟩
 | .sl .., _, hr, _ | .pp .., _, hr, _ | .hs .., _, hr, _ | .hp .., _, hr, _ | .mp .., _, hr, _ => by simp [oS] at hr
theorem mq {w' : World} {mu2 : Nat -> Prop} {Z2 : List (Option PB)} : (cs : List AV) -> (vs : List Value) -> pf cs = false -> RvL w mu Z cs vs -> RvL w' mu2 Z2 cs vs
 | [], vs, _, h => h
 | c :: cs, vs, hr, h => by
  obtain ⟨v, vs', rfl, h1, h2⟩ := h
  simp only [pf, Bool.or_eq_false_iff] at hr
  exact ⟨v, vs', rfl, wG c v hr.1 h1, mq cs vs' hr.2 h2⟩
end
end
section
variable {P : Program} {out : Nat -> Prop} {B : Nat -> Prop} {w : World} {Z : List (Option PB)} {H : List Blk}
theorem Inv.A8 (hI : Inv out B w Z H) {b : Nat} {cs : List AV} (h : H[b]? = some (.own cs) \/ H[b]? = some (.fix cs)) :
  Inv out B w Z (upd H b (.fix cs)) /\ Ext B w w (aM out Z H) (aM out Z (upd H b (.fix cs))) Z Z := by
 have hlt : b < H.length := by rcases h with h | h <;> exact aQ h
 have hu : upd H b (.fix cs) = H.set b (.fix cs) := by simp [upd, hlt]
 rw [hu]
 rcases h with h | h
 · cases hp : Z[b]? with
   | none => have := List.getElem?_eq_none_iff.1 hp; have := hI.len; omega
   | some op =>
    cases op with
    | some p =>
     obtain ⟨h1, h2⟩ := hI.tE h hp rfl (.fix cs) (w' := w) rfl (fun _ _ => rfl) rfl rfl rfl (fun _ => Nat.le_refl _) (fun hE => RvC.ext hE cs _ _ rfl (iq hI (.inl h) hp))
     exact ⟨h2, h1⟩
    | none =>
     have hmuiff : ∀ x, aM out Z (H.set b (.fix cs)) x -> aM out Z H x := by
      rintro x (ho | ⟨i, y, p, g1, g2, g3, g4⟩)
      · exact .inl ho
      · rcases fZ g1 with ⟨rfl, rfl⟩ | ⟨_, g1'⟩
        · simp [Blk.gV] at g2
        · exact .inr ⟨i, y, p, g1', g2, g3, g4⟩
     have hE : Ext B w w (aM out Z H) (aM out Z (H.set b (.fix cs))) Z Z := ⟨fun _ _ => rfl, Nat.le_refl _, fun x _ hx => ⟨rfl, fun hx' => hx (hmuiff x hx')⟩, fun _ _ h => h, rfl, rfl, rfl, fun _ => Nat.le_refl _⟩
     refine ⟨⟨by simp [hI.len], hI.bound, hI.out_lt, ?_, ?_, ?_⟩, hE⟩
     · intro i x q g1 g2 g3
       rcases fZ g1 with ⟨rfl, _⟩ | ⟨_, g1'⟩
       · rw [hp] at g2; cases g2
       · exact hI.base i x q g1' g2 g3
     · intro i x q g1 g2
       rcases fZ g1 with ⟨rfl, _⟩ | ⟨_, g1'⟩
       · rw [hp] at g2; cases g2
       · exact gy.ext hE (fun _ => rfl) (hI.ok i x q g1' g2)
     · intro i j x y q r hij g1 g2 g3 g4 g5 g6
       rcases fZ g1 with ⟨rfl, _⟩ | ⟨_, g1'⟩
       · rw [hp] at g3; cases g3
       · rcases fZ g2 with ⟨rfl, _⟩ | ⟨_, g2'⟩
         · rw [hp] at g4; cases g4
         · exact hI.sep i j x y q r hij g1' g2' g3 g4 g5 g6
 · have he : H.set b (.fix cs) = H := by
    apply List.ext_getElem?
    intro j
    rw [List.getElem?_set]
    split
    · rename_i hij; subst hij; first | exact h.symm | (rw [if_pos hlt]; exact h.symm)
    · rfl
   rw [he]
   exact ⟨hI, Ext.refl _ _ _⟩
theorem kR : ∀ (l : List Nat) (H' : List Blk) (H0 : List Blk), Inv out B w Z H' -> (∀ b ∈ l, b < H0.length -> (H'[b]? = H0[b]? \/ ∃ cs, H0[b]? = some (.own cs) /\ H'[b]? = some (.fix cs))) ->
  Inv out B w Z (aP H' (df H0 l)) /\ Ext B w w (aM out Z H') (aM out Z (aP H' (df H0 l))) Z Z /\
  (aP H' (df H0 l)).length = H'.length /\ (∀ b ∈ l, ∀ cs, H0[b]? = some (.own cs) -> (aP H' (df H0 l))[b]? = some (.fix cs)) /\
  (∀ b, (∀ cs, b ∈ l -> H0[b]? ≠ some (.own cs)) -> (aP H' (df H0 l))[b]? = H'[b]?)
 | [], H', H0, hI, _ => ⟨hI, Ext.refl _ _ _, rfl, by simp, fun _ _ => rfl⟩
 | b :: l, H', H0, hI, hag => by
  cases hb : H0[b]? with
  | none =>
   have e : df H0 (b :: l) = df H0 l := by simp [df, hb]
   rw [e]
   obtain ⟨h1, h2, h3, h4, h5⟩ := kR l H' H0 hI (fun x hx => hag x (by simp [hx]))
   refine ⟨h1, h2, h3, fun x hx cs hcs => ?_, fun x hx => h5 x fun cs hm => hx cs (by simp [hm])⟩
   rcases List.mem_cons.1 hx with rfl | hx
   · rw [hb] at hcs; cases hcs
   · exact h4 x hx cs hcs
  | some y =>
   have other : (∀ cs, y ≠ .own cs) -> df H0 (b :: l) = df H0 l := by
    intro hy
    cases y with
    | own cs => exact (hy cs rfl).elim
    | _ => simp [df, hb]
   by_cases hy : ∃ cs, y = .own cs
   · obtain ⟨cs, rfl⟩ := hy
     have e : df H0 (b :: l) = (b, .fix cs) :: df H0 l := by simp [df, hb]
     rw [e]
     have hlt : b < H0.length := aQ hb
     have hH' : H'[b]? = some (.own cs) \/ H'[b]? = some (.fix cs) := by
      rcases hag b (by simp) hlt with h | ⟨cs', h1, h2⟩
      · left; rw [h]; exact hb
      · rw [hb] at h1; cases h1; exact .inr h2
     have hlt' : b < H'.length := by rcases hH' with h | h <;> exact aQ h
     obtain ⟨hI1, hE1⟩ := hI.A8 hH'
     have hl1 : (upd H' b (.fix cs)).length = H'.length := by rw [cZ (by omega), if_neg (by omega)]
     obtain ⟨h1, h2, h3, h4, h5⟩ := kR l (upd H' b (.fix cs)) H0 hI1 (fun x hx hxl => by
      rw [fH (by omega)]
      split
      · rename_i e0; subst e0; exact .inr ⟨cs, hb, rfl⟩
      · exact hag x (by simp [hx]) hxl)
     refine ⟨h1, hE1.trans h2, by rw [aP, h3, hl1], fun x hx cs' hcs' => ?_, fun x hx => ?_⟩
     · by_cases hxl : x ∈ l
       · exact h4 x hxl cs' hcs'
       · rcases List.mem_cons.1 hx with rfl | hx
         · rw [hb] at hcs'; cases hcs'
           rw [aP, h5 x (fun _ hm => (hxl hm).elim), fH (by omega), if_pos rfl]
         · exact (hxl hx).elim
     · have hxb : x ≠ b := by rintro rfl; exact hx cs (by simp) hb
       rw [aP, h5 x (fun cs' hm => hx cs' (by simp [hm])), fH (by omega), if_neg hxb]
   · have hy' : ∀ cs, y ≠ .own cs := fun cs e => hy ⟨cs, e⟩
     rw [other hy']
     obtain ⟨h1, h2, h3, h4, h5⟩ := kR l H' H0 hI (fun x hx => hag x (by simp [hx]))
     refine ⟨h1, h2, h3, fun x hx cs hcs => ?_, fun x hx => h5 x fun cs hm => hx cs (by simp [hm])⟩
     rcases List.mem_cons.1 hx with rfl | hx
     · rw [hb] at hcs; cases hcs; exact (hy' cs rfl).elim
     · exact h4 x hx cs hcs
theorem Inv.Gs {w' : World} (hI : Inv out B w Z H) (hlow : ∀ b, b < w.heap.size -> w'.heap[b]? = w.heap[b]?) (hsz : w.heap.size <= w'.heap.size) (ho : w'.os = w.os) (ht : w'.tape = w.tape) (hu : w'.output = w.output) (hd : Dr.d = true -> w.drawn <= w'.drawn) :
  Inv out B w' Z H /\ Ext B w w' (aM out Z H) (aM out Z H) Z Z := by
 have hE : Ext B w w' (aM out Z H) (aM out Z H) Z Z := ⟨fun b hb => hlow b (hI.bound b hb), hsz, fun b hb h => ⟨hlow b hb, h⟩, fun _ _ h => h, ho, ht, hu, hd⟩
 refine ⟨⟨hI.len, fun b hb => by have := hI.bound b hb; omega, hI.out_lt, fun i x p h1 h2 h3 => by have := hI.base i x p h1 h2 h3; exact ⟨this.1, by omega⟩, fun i x p h1 h2 => gy.ext hE (fun hl => hlow _ (hI.base i x p h1 h2 hl).2) (hI.ok i x p h1 h2), hI.sep⟩, hE⟩
end
end Go.Eng


namespace Go.Eng
open Go Go.RowKit
variable [Dr]
def ye (P : Program) (f : FuncId) (F : List AV -> Option AV) : Prop :=
 ∀ args r, F args = some r -> ∀ (out : Nat -> Prop) (w : World) (vs : List Value), (∀ b, out b -> b < w.heap.size) -> RvL w out [] args vs ->
  Calls P f vs.toArray w fun e w' => ∃ u, e = .returned u /\ Ext (Lo w.heap.size) w w' out out [] [] /\ Rv w' out [] r u
section
variable {P : Program} {out : Nat -> Prop} {B : Nat -> Prop} {w w' : World} {Z πG : List (Option PB)} {H H' G : List Blk}
theorem sr : aM out [] [] = out := by
 funext b
 apply propext
 constructor
 · rintro (h | ⟨i, x, p, h, _⟩)
   · exact h
   · simp at h
 · exact .inl
theorem A9 (hI : Inv out B w Z H) : ∀ b, aM out Z H b -> b < w.heap.size := by
 rintro b (h | ⟨i, x, p, h1, h2, h3, h4⟩)
 · exact hI.bound _ (hI.out_lt b h)
 · have := hI.base i x p h1 h3 (Blk.bG h2); omega
theorem Ext.Az (hI : Inv out B w Z H) {Z' : List (Option PB)} {mu : Nat -> Prop} (hE : Ext B w w mu (aM out Z H) Z' Z) : ∀ b, aM out Z H b -> mu b := by
 intro b hb
 by_cases h : mu b
 · exact h
 · exact ((hE.keep b (A9 hI b hb) h).2 hb).elim
end
end Go.Eng

