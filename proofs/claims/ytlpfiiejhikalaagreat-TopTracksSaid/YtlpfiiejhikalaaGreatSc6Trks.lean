import Derived.Test.YtlpfiiejhikalaaGreatSc3Trks
import Derived.KernelRfl
set_option linter.unusedVariables false
namespace Go.Eng
open Go
variable [Dr]
@[reducible] def ag (n : Int) : AV := .at (.int .i64 n)
@[reducible] def aV (n : Int) : AV := .at (.int .u64 n)
@[reducible] def Ev (n : Int) : AV := .at (.int .u32 n)
@[reducible] def aU8 (n : Int) : AV := .at (.int .u8 n)
@[reducible] def Et (n : Int) : AV := .at (.int .i32 n)
@[reducible] def aB (b : Bool) : AV := .at (.bool b)
@[reducible] def gj (l : List Int) : AV := slT (iC .i64) l
@[reducible] def Eu (l : List Int) : AV := slT (iC .u32) l
@[reducible] def sU8 (l : List Int) : AV := slT (iC .u8) l
section
variable {P : Program} {call : dN} {ops rest : List Oper} {o : Oper} {s : List AV} {h : List Blk} {K : List AV -> List Blk -> Prop} {KT : List AV -> List Blk -> List Ent -> Prop}
 {dst : Option Tmp} {op : Op} {ty : TypeId} {pos : String} {after : Array Edge}
theorem EVO.e1 (v : AV) (ws : List (Nat × Blk)) (hk : EVO P call ops rest (eS s dst v) (aO h ws) K) (he : evalOp P (evA s) h h.length ⟨dst, op, ty, pos, after, none⟩ = some (.eff v ws) := by kernel_rfl) : EVO P call ops (⟨dst, op, ty, pos, after, none⟩ :: rest) s h K := EVO.e0 he hk
theorem EVT.e1 (v : AV) (ws : List (Nat × Blk)) (hk : EVT P call ops rest (eS s o.dst v) (aO h ws) (fun s' h' es => KT s' h' (oN o s h v ws :: es))) (hw : cE ops o s = some true := by kernel_rfl) (he : evalOp P (evA s) h h.length o = some (.eff v ws) := by kernel_rfl) (hok : jC h.length (oN o s h v ws) = true := by kernel_rfl) : EVT P call ops (o :: rest) s h KT := EVT.eff hw he hok hk
end
theorem CQ.r0 {K : Nat} {P : Program} {k : List Fr} {F : X -> St -> Prop} (G : lH P) {i : Nat} {l : List Oper} {s : List AV} {h : List Blk} (he : EVO P (cw []) l l s h (fun s' h' => CQ K P k F .normal ⟨s', h'⟩)) : CQ K P (.c (.region i l.toArray false) :: k) F .normal ⟨s, h⟩ := CQ.region G aK he
theorem aS.r1 {P : Program} {rs : List ResultVar} {r : AV} {st : St} (vs : List AV) (h : dx P st rs = some vs := by kernel_rfl) (k : Sn st.heap (fun _ => true) (fR vs) r := by exact Sn.pure rfl) : aS P rs r .ret st := aS.ret h k
end Go.Eng
namespace Go.L
open Go Go.Eng
end Go.L


set_option linter.all false
namespace Go.Eng
open Go Go.RowKit
variable [Dr]
variable {K : Nat}
def yS : AV -> Bool
 | .unk | .at _ | .sl .. | .pp .. => true
 | _ => false
theorem qZ {G : List Blk} {ok : Nat -> Bool} {n : Nat} : ∀ cs : List AV, cs.all yS = true -> pF (lf G ok n) cs = some cs
 | [], _ => rfl
 | c :: cs, h => by
  simp only [List.all_cons, Bool.and_eq_true] at h
  have ih := qZ (G := G) (ok := ok) (n := n) cs h.2
  have : lf G ok n c = some c := by
   have h1 := h.1
   cases c <;> simp only [yS, Bool.false_eq_true] at h1 <;> cases n <;> rfl
  simp only [pF, this, ih]
def kJ (G : List Blk) (r0 : AV) (r : Nat -> AV) (cs : List AV) : Prop := ∀ (l : List Nat) (H : List Blk), ∃ n, zw n l H G r0 = some (.loc (r H.length) (dc H l ++ [(H.length, .own cs)]) l 1)
theorem kJ.mk {G : List Blk} {r0 : AV} {r : Nat -> AV} {cs : List AV} (b : Nat) (hG : G[b]? = some (.own cs)) (hl : cs.all yS = true) (h1 : lJ r0 = true) (h2 : ((jh r0).filter fun b => zb G[b]?).foldl zu [] = [b])
  (h3 : ∀ m, Au G (fun x => ![b].contains x) (findAt [b] · m) 3 r0 = some (r m)) : kJ G r0 r cs := by
 intro l H
 refine ⟨3, ?_⟩
 unfold zw
 simp only [h1, h2]
 have e1 : vy [b] = true := rfl
 have e2 : s6 G (fun x => ![b].contains x) 3 [b] = some [cs] := by simp only [s6, hG, qZ cs hl]
 rw [e1, e2, h3]
 rfl
section
variable {P : Program}
def AR (P : Program) (f : FuncId) (args : List AV) (r : Nat -> AV) (cs : List AV) : Prop := ∀ (out : Nat -> Prop) (w : World) (vs : List Value), (∀ b, out b -> b < w.heap.size) -> RvL w out [] args vs ->
  Calls P f vs.toArray w fun e w' => ∃ u πG G r0, e = .returned u /\ Ext (Lo w.heap.size) w w' out (aH out πG G) [] πG /\ Inv out (Lo w.heap.size) w' πG G /\ Rv w' (aH out πG G) πG r0 u /\ kJ G r0 r cs
def ri (A A' : AV) : Prop := ∀ (w : World) (mu : Nat -> Prop) (Z : List (Option PB)) (u : Value), Rv w mu Z A u -> Rv w mu Z A' u
theorem ri.refl (A : AV) : ri A A := fun _ _ _ _ h => h
theorem ri.nil (i off es : Nat) : ri (.at (.slice none 0 0)) (.hs i off 0 es) := fun _ _ _ _ h => .inl ⟨rfl, h⟩
theorem ri.tup {cs ds : List AV} (h : ∀ (w : World) (mu : Nat -> Prop) (Z : List (Option PB)) (vs : List Value), RvL w mu Z cs vs -> RvL w mu Z ds vs) : ri (.tup cs) (.tup ds) := by
 rintro w mu Z u ⟨vs, rfl, k⟩
 exact ⟨vs, rfl, h w mu Z _ k⟩
def zf (P : Program) (rs : List ResultVar) (r : Nat -> AV) (cs : List AV) : X -> St -> Prop
 | .exit _, _ => False
 | _, st => ∃ vs, dx P st rs = some vs /\ (kJ st.heap (fR vs) r cs \/ ∃ r0, ri (fR vs) r0 /\ kJ (upd st.heap st.heap.length (.own [])) r0 r cs)
theorem zf.ret {rs : List ResultVar} {r : Nat -> AV} {cs : List AV} {st : St} {vs : List AV} (h : dx P st rs = some vs) (k : kJ st.heap (fR vs) r cs) : zf P rs r cs .ret st := ⟨vs, h, .inl k⟩
theorem zf.normal {rs : List ResultVar} {r : Nat -> AV} {cs : List AV} {st : St} {vs : List AV} (h : dx P st rs = some vs) (k : kJ st.heap (fR vs) r cs) : zf P rs r cs .normal st := ⟨vs, h, .inl k⟩
theorem AR.body (G : lH P) {f : FuncId} {fn : Func} (hf : P.funcs[f]? = some fn) {c : Code} (hb : fn.body = some c) {args : List AV} {r : Nat -> AV} {cs : List AV} {s : List AV} {rs : List ResultVar} (hs : args ++ oO (fn.ntmps - args.length) = s) (hrs : fn.results.toList = rs)
  (h : CQ 0 P [.c c] (zf P rs r cs) .normal ⟨s, []⟩) : AR P f args r cs := by
 intro out w vs hout ha
 subst hs
 subst hrs
 refine calls_of_wp hf hb ?_
 have hlen := RvL.length _ _ ha
 have hI0 : Inv out (Lo w.heap.size) w [] [] := ⟨rfl, fun _ h => h, hout, by simp, by simp, by simp⟩
 have hR : Rep out (Lo w.heap.size) w [] ⟨args ++ oO (fn.ntmps - args.length), []⟩ { tmps := vs.toArray ++ Array.replicate (fn.ntmps - vs.toArray.size) undef, defers := [] } := by
  refine ⟨rfl, ?_, hI0⟩
  simp only [Array.toList_append, Array.toList_replicate, List.size_toArray, hlen]
  rw [od]
  refine RvL.append _ _ _ _ ha ?_
  refine RvL.lj _ _ (by simp [oO]) fun i x y h1 h2 => ?_
  have := List.mem_of_getElem? h1
  simp [oO] at this
  rw [this.2]; trivial
 refine h out (Lo w.heap.size) w [] _ _ hR fun x st' a' w' Z' hq hR' hE => ?_
 rw [od] at hE
 have fin : ∀ vs', dx P st' fn.results.toList = some vs' -> (kJ st'.heap (fR vs') r cs \/ ∃ r0, ri (fR vs') r0 /\ kJ (upd st'.heap st'.heap.length (.own [])) r0 r cs) -> ∃ u, (results fn a'.tmps).run P w' = .ok u w' /\ ∃ u' πG G r0, (Ending.returned u) = .returned u' /\ Ext (Lo w.heap.size) w w' out (aH out πG G) [] πG /\ Inv out (Lo w.heap.size) w' πG G /\ Rv w' (aH out πG G) πG r0 u' /\ kJ G r0 r cs := by
  intro vs' hv hsn
  obtain ⟨u, r1, r2⟩ := kF hR' hv
  have key : ∀ (πG : List (Option PB)) (G : List Blk), Inv out (Lo w.heap.size) w' πG G -> Ext (Lo w.heap.size) w w' out (aH out πG G) [] πG := by
   intro πG G hI
   refine ⟨hE.low, hE.size, fun b hb hnb => ⟨hE.low b hb, ?_⟩, by simp, hE.os, hE.tape, hE.output, hE.drawn⟩
   rintro (h | ⟨i, x, p, h1, h2, h3, h4⟩)
   · exact hnb h
   · exact (hI.baseO i x p b h1 h3 h4).1 hb
  rcases hsn with hsn | ⟨r0, hc, hsn⟩
  · exact ⟨u, r1, u, Z', st'.heap, fR vs', rfl, key _ _ hR'.inv, hR'.inv, r2, hsn⟩
  · obtain ⟨g2, g1⟩ := hR'.inv.qu (n := st'.heap.length) (Nat.le_refl _) (fun q h => by have := aE h; have := hR'.inv.len; omega) (.own [])
    exact ⟨u, r1, u, _, _, r0, rfl, key _ _ g1, g1, hc _ _ _ _ (Rv.ext g2 _ _ r2), hsn⟩
 cases x with
 | normal => obtain ⟨vs', h1, h2⟩ := hq; exact ⟨hR'.defers, fin vs' h1 h2⟩
 | ret => obtain ⟨vs', h1, h2⟩ := hq; exact ⟨hR'.defers, fin vs' h1 h2⟩
 | exit id => exact hq.elim
end
theorem rF {α : Type} : ∀ (l : List α) (i : Nat) (x : α), l[i]? = some x -> l.set i x = l
 | [], _, _, h => by simp at h
 | y :: l, 0, x, h => by simp at h; subst h; rfl
 | y :: l, i + 1, x, h => by simp only [List.set_cons_succ, rF l i x (by simpa using h)]
theorem Wk.qG (i j : Nat) {b len es : Nat} (len' : Nat) {s : List AV} {h : List Blk} {cs : List AV} (hb : h[i]? = some (.own cs)) (hc : cs[j]? = some (.hs b 0 len es)) (hl : len = len') : Wk K ⟨s, h⟩ ⟨s, h.set i (.own (cs.set j (.hs b 0 len' es)))⟩ := by
 subst hl
 rw [rF cs j _ hc, rF h i _ hb]
 exact Wk.refl _
end Go.Eng


set_option linter.all false
namespace Go.Eng
open Go Go.RowKit
variable [Dr]
variable {K : Nat}
theorem RvC.set {w : World} {mu : Nat -> Prop} {Z : List (Option PB)} {A A' : AV} (hA : ri A A') : ∀ (cs : List AV) (j b o : Nat), cs[j]? = some A -> RvC w mu Z cs b o -> RvC w mu Z (cs.set j A') b o
 | [], j, _, _, h, _ => by simp at h
 | c :: cs, 0, b, o, h, k => by
  simp at h; subst h
  obtain ⟨⟨v, h1, h2, h3⟩, h4⟩ := k
  exact ⟨⟨v, h1, h2, hA _ _ _ _ h3⟩, h4⟩
 | c :: cs, j + 1, b, o, h, k => ⟨k.1, RvC.set hA cs j b (o + 1) (by simpa using h) k.2⟩
theorem Wk.cell (i j : Nat) {A A' : AV} {cs : List AV} {s : List AV} {h : List Blk} (hA : ri A A') (hb : h[i]? = some (.own cs)) (hc : cs[j]? = some A) : Wk K ⟨s, h⟩ ⟨s, h.set i (.own (cs.set j A'))⟩ := fun out B w Z a hR => by
 have hI := hR.inv
 have hil := aE hb
 have g : ∀ {k : Nat} {x : Blk}, (h.set i (.own (cs.set j A')))[k]? = some x -> (k = i /\ x = .own (cs.set j A')) \/ (k ≠ i /\ h[k]? = some x) := by
  intro k x hk
  by_cases hki : k = i
  · subst hki
    rw [List.getElem?_set_self hil] at hk
    exact .inl ⟨rfl, (Option.some.inj hk).symm⟩
  · rw [List.getElem?_set_ne (fun e => hki e.symm)] at hk
    exact .inr ⟨hki, hk⟩
 have old : ∀ {k : Nat} {x : Blk}, (h.set i (.own (cs.set j A')))[k]? = some x -> ∃ y, h[k]? = some y /\ y.isLive = x.isLive /\ y.eh = x.eh /\ (∀ p b, x.owns p b -> y.owns p b) := by
  intro k x hk
  rcases g hk with ⟨rfl, rfl⟩ | ⟨_, hk⟩
  · exact ⟨_, hb, rfl, rfl, fun _ _ h => h⟩
  · exact ⟨x, hk, rfl, rfl, fun _ _ h => h⟩
 have hmu : aH out Z (h.set i (.own (cs.set j A'))) = aH out Z h := by
  funext b
  apply propext
  constructor
  · rintro (hb | ⟨k, x, p, h1, h2, h3, h4⟩)
    · exact .inl hb
    · obtain ⟨y, y1, _, y3, y4⟩ := old h1
      exact .inr ⟨k, y, p, y1, by rw [y3]; exact h2, h3, y4 _ _ h4⟩
  · rintro (hb' | ⟨k, x, p, h1, h2, h3, h4⟩)
    · exact .inl hb'
    · by_cases hki : k = i
      · subst hki
        rw [hb] at h1; cases h1
        exact .inr ⟨k, .own (cs.set j A'), p, List.getElem?_set_self hil, rfl, h3, h4⟩
      · exact .inr ⟨k, x, p, by rw [List.getElem?_set_ne (fun e => hki e.symm)]; exact h1, h2, h3, h4⟩
 refine ⟨Z, ⟨hR.defers, ?_, ?_⟩, fun b hb => ?_, jX.refl Z⟩
 · simp only [hmu]; exact hR.slots
 · refine ⟨by simpa using hI.len, hI.bound, hI.out_lt, ?_, ?_, ?_⟩
   · intro k x p b h1 h2 h3
     obtain ⟨y, y1, _, _, y4⟩ := old h1
     exact hI.baseO k y p b y1 h2 (y4 _ _ h3)
   · intro k x p h1 h2
     simp only [hmu]
     rcases g h1 with ⟨rfl, rfl⟩ | ⟨_, hk⟩
     · obtain ⟨o1, o2⟩ := hI.ok k _ p hb h2
       exact ⟨o1, RvC.set hA cs j _ _ hc o2⟩
     · exact hI.ok k x p hk h2
   · intro k l x y p q b hkl h1 h2 h3 h4 h5 h6 h7
     obtain ⟨x', x1, _, x3, x4⟩ := old h1
     obtain ⟨y', y1, _, _, y4⟩ := old h2
     exact hI.sepO k l x' y' p q b hkl x1 y1 h3 h4 (by rw [x3]; exact h5) (x4 _ _ h6) (y4 _ _ h7)
 · rw [hmu] at hb; exact hb
theorem Wk.fresh {s : List AV} {h : List Blk} (x : Blk) : Wk K ⟨s, h⟩ ⟨s, h ++ [x]⟩ := fun out B w Z a hR => by
 have hl := hR.inv.len
 simp only at hl
 obtain ⟨g2, g1⟩ := hR.inv.qu (n := h.length) (Nat.le_refl _) (fun q e => by have := aE e; omega) x
 have hu : upd h h.length x = h ++ [x] := by simp [upd]
 simp only at g1 g2
 rw [hu] at g1 g2
 exact ⟨_, ⟨hR.defers, RvL.ext g2 _ _ hR.slots, g1⟩, fun b hb => by
  rcases hb with hb | ⟨k, y, p, h1, h2, h3, h4⟩
  · exact .inl hb
  · rcases Nat.lt_or_ge k h.length with hk | hk
    · rw [List.getElem?_append_left hk] at h1
      refine .inr ⟨k, y, p, h1, h2, ?_, h4⟩
      unfold upd at h3
      rw [if_neg (by omega), List.getElem?_append_left (by omega)] at h3
      exact h3
    · exfalso
      have := aE h1
      simp at this
      have hk : k = Z.length := by omega
      subst hk
      unfold upd at h3
      rw [if_neg (by omega), List.getElem?_append_right (by omega)] at h3
      simp at h3, g2.pin⟩
theorem Wk.mK (i j es : Nat) {cs : List AV} {s : List AV} {h : List Blk} (hb : h[i]? = some (.own cs)) (hc : cs[j]? = some (.at (.slice none 0 0))) : Wk K ⟨s, h⟩ ⟨s, List.set (h ++ [Blk.own []]) i (Blk.own (cs.set j (.hs h.length 0 0 es)))⟩ :=
 (Wk.fresh (Blk.own [])).trans (Wk.cell i j (ri.nil h.length 0 es) (by rw [List.getElem?_append_left (aE hb)]; exact hb) hc)
end Go.Eng

