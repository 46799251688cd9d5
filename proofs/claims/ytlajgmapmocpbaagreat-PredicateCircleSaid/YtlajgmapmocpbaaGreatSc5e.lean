/- The engine, part 23: functions that answer a slice of their own making, which the caller may write. -/
import Derived.Test.YtlajgmapmocpbaaGreatSc4e
set_option linter.unusedVariables false
set_option linter.unusedSimpArgs false
namespace Go.Eng
open Go Go.RowKit
variable {K : Nat}

/-- No cell leads to an own block. -/
def leafA : AV → Bool
  | .unk | .at _ | .sl .. | .pp .. => true
  | _ => false
theorem snapA_leaf {G : List Blk} {ok : Nat → Bool} {n : Nat} : ∀ cs : List AV, cs.all leafA = true → mapO (snapA G ok n) cs = some cs
  | [], _ => rfl
  | c :: cs, h => by
    simp only [List.all_cons, Bool.and_eq_true] at h
    have ih := snapA_leaf (G := G) (ok := ok) (n := n) cs h.2
    have : snapA G ok n c = some c := by
      have h1 := h.1
      cases c <;> simp only [leafA, Bool.false_eq_true] at h1 <;> cases n <;> rfl
    simp only [mapO, this, ih]
theorem leaf_flat {α : Type} {c : α → List AV} (h : ∀ x, (c x).all leafA = true) (l : List α) : (l.flatMap c).all leafA = true := by
  rw [List.all_eq_true]
  intro a ha
  obtain ⟨x, _, hx⟩ := List.mem_flatMap.1 ha
  exact List.all_eq_true.1 (h x) a hx
theorem iC_leaf (k : IntKind) (x : Int) : (iC k x).all leafA = true := rfl
theorem bC_leaf (b : Bool) : (bC b).all leafA = true := rfl

/-- The answer r0 over the callee's blocks G is, at home, r over one new block of cells cs. -/
def Brings (G : List Blk) (r0 : AV) (r : Nat → AV) (cs : List AV) : Prop := ∀ (l : List Nat) (H : List Blk), ∃ n, bringA n l H G r0 = some (.loc (r H.length) (freezeW H l ++ [(H.length, .own cs)]) l 1)
theorem Brings.mk {G : List Blk} {r0 : AV} {r : Nat → AV} {cs : List AV} (b : Nat) (hG : G[b]? = some (.own cs)) (hl : cs.all leafA = true) (h1 : hasRef r0 = true) (h2 : ((idsOf r0).filter fun b => isOwnB G[b]?).foldl insNat [] = [b])
    (h3 : ∀ m, renA G (fun x => ![b].contains x) (findAt [b] · m) 3 r0 = some (r m)) : Brings G r0 r cs := by
  intro l H
  refine ⟨3, ?_⟩
  unfold bringA
  simp only [h1, h2]
  have e1 : nodupB [b] = true := rfl
  have e2 : bringL G (fun x => ![b].contains x) 3 [b] = some [cs] := by simp only [bringL, hG, snapA_leaf cs hl]
  rw [e1, e2, h3]
  rfl

section
variable {P : Program}
def FnNew (P : Program) (f : FuncId) (args : List AV) (r : Nat → AV) (cs : List AV) : Prop := ∀ (out : Nat → Prop) (w : World) (vs : List Value), (∀ b, out b → b < w.heap.size) → RvL w out [] args vs →
    Calls P f vs.toArray w fun e w' => ∃ u πG G r0, e = .returned u ∧ Ext (Lo w.heap.size) w w' out (muOf out πG G) [] πG ∧ Inv out (Lo w.heap.size) w' πG G ∧ Rv w' (muOf out πG G) πG r0 u ∧ Brings G r0 r cs
/-- Whatever reads as A reads as A'. -/
def RvTo (A A' : AV) : Prop := ∀ (w : World) (mu : Nat → Prop) (π : List (Option PB)) (u : Value), Rv w mu π A u → Rv w mu π A' u
theorem RvTo.refl (A : AV) : RvTo A A := fun _ _ _ _ h => h
theorem RvTo.nil (i off es : Nat) : RvTo (.at (.slice none 0 0)) (.hs i off 0 es) := fun _ _ _ _ h => .inl ⟨rfl, h⟩
theorem RvTo.tup {cs ds : List AV} (h : ∀ (w : World) (mu : Nat → Prop) (π : List (Option PB)) (vs : List Value), RvL w mu π cs vs → RvL w mu π ds vs) : RvTo (.tup cs) (.tup ds) := by
  rintro w mu π u ⟨vs, rfl, k⟩
  exact ⟨vs, rfl, h w mu π _ k⟩
theorem RvTo.hd {a b : AV} {l : List AV} (h : RvTo a b) : ∀ (w : World) (mu : Nat → Prop) (π : List (Option PB)) (vs : List Value), RvL w mu π (a :: l) vs → RvL w mu π (b :: l) vs := by
  rintro w mu π vs ⟨v, vs', rfl, h1, h2⟩
  exact ⟨v, vs', rfl, h w mu π v h1, h2⟩
theorem RvTo.tl {a : AV} {l l' : List AV} (h : ∀ (w : World) (mu : Nat → Prop) (π : List (Option PB)) (vs : List Value), RvL w mu π l vs → RvL w mu π l' vs) : ∀ (w : World) (mu : Nat → Prop) (π : List (Option PB)) (vs : List Value), RvL w mu π (a :: l) vs → RvL w mu π (a :: l') vs := by
  rintro w mu π vs ⟨v, vs', rfl, h1, h2⟩
  exact ⟨v, vs', rfl, h1, h w mu π vs' h2⟩
def FinN (P : Program) (rs : List ResultVar) (r : Nat → AV) (cs : List AV) : X → St → Prop
  | .exit _, _ => False
  | _, st => ∃ vs, resultsA P st rs = some vs ∧ (Brings st.heap (packA vs) r cs ∨ ∃ r0, RvTo (packA vs) r0 ∧ Brings (upd st.heap st.heap.length (.own [])) r0 r cs)
theorem FinN.ret {rs : List ResultVar} {r : Nat → AV} {cs : List AV} {st : St} {vs : List AV} (h : resultsA P st rs = some vs) (k : Brings st.heap (packA vs) r cs) : FinN P rs r cs .ret st := ⟨vs, h, .inl k⟩
theorem FinN.normal {rs : List ResultVar} {r : Nat → AV} {cs : List AV} {st : St} {vs : List AV} (h : resultsA P st rs = some vs) (k : Brings st.heap (packA vs) r cs) : FinN P rs r cs .normal st := ⟨vs, h, .inl k⟩
theorem FinN.retN {rs : List ResultVar} {r : Nat → AV} {cs : List AV} {st : St} {vs : List AV} {r0 : AV} (h : resultsA P st rs = some vs) (c : RvTo (packA vs) r0) (k : Brings (upd st.heap st.heap.length (.own [])) r0 r cs) : FinN P rs r cs .ret st := ⟨vs, h, .inr ⟨r0, c, k⟩⟩
theorem FinN.normalN {rs : List ResultVar} {r : Nat → AV} {cs : List AV} {st : St} {vs : List AV} {r0 : AV} (h : resultsA P st rs = some vs) (c : RvTo (packA vs) r0) (k : Brings (upd st.heap st.heap.length (.own [])) r0 r cs) : FinN P rs r cs .normal st := ⟨vs, h, .inr ⟨r0, c, k⟩⟩

theorem FnNew.body (G : Fine P) {f : FuncId} {fn : Func} (hf : P.funcs[f]? = some fn) {c : Code} (hb : fn.body = some c) {args : List AV} {r : Nat → AV} {cs : List AV} {s : List AV} {rs : List ResultVar} (hs : args ++ unks (fn.ntmps - args.length) = s) (hrs : fn.results.toList = rs)
    (h : CQ 0 P [.c c] (FinN P rs r cs) .normal ⟨s, []⟩) : FnNew P f args r cs := by
  intro out w vs hout ha
  subst hs
  subst hrs
  refine calls_of_wp hf hb ?_
  have hlen := RvL.length _ _ ha
  have hI0 : Inv out (Lo w.heap.size) w [] [] := ⟨rfl, fun _ h => h, hout, by simp, by simp, by simp⟩
  have hR : Rep out (Lo w.heap.size) w [] ⟨args ++ unks (fn.ntmps - args.length), []⟩ { tmps := vs.toArray ++ Array.replicate (fn.ntmps - vs.toArray.size) undef, defers := [] } := by
    refine ⟨rfl, ?_, hI0⟩
    simp only [Array.toList_append, Array.toList_replicate, List.size_toArray, hlen]
    rw [muOf_nil]
    refine RvL.append _ _ _ _ ha ?_
    refine RvL.of_forall _ _ (by simp [unks]) fun i x y h1 h2 => ?_
    have := List.mem_of_getElem? h1
    simp [unks] at this
    rw [this.2]; trivial
  refine h out (Lo w.heap.size) w [] _ _ hR fun x st' a' w' π' hq hR' hE => ?_
  rw [muOf_nil] at hE
  have fin : ∀ vs', resultsA P st' fn.results.toList = some vs' → (Brings st'.heap (packA vs') r cs ∨ ∃ r0, RvTo (packA vs') r0 ∧ Brings (upd st'.heap st'.heap.length (.own [])) r0 r cs) → ∃ u, (results fn a'.tmps).run P w' = .ok u w' ∧ ∃ u' πG G r0, (Ending.returned u) = .returned u' ∧ Ext (Lo w.heap.size) w w' out (muOf out πG G) [] πG ∧ Inv out (Lo w.heap.size) w' πG G ∧ Rv w' (muOf out πG G) πG r0 u' ∧ Brings G r0 r cs := by
    intro vs' hv hsn
    obtain ⟨u, r1, r2⟩ := results_sound hR' hv
    have key : ∀ (πG : List (Option PB)) (G : List Blk), Inv out (Lo w.heap.size) w' πG G → Ext (Lo w.heap.size) w w' out (muOf out πG G) [] πG := by
      intro πG G hI
      refine ⟨hE.low, hE.size, fun b hb hnb => ⟨hE.low b hb, ?_⟩, by simp, hE.os, hE.tape, hE.output⟩
      rintro (h | ⟨i, x, p, h1, h2, h3, h4⟩)
      · exact hnb h
      · exact (hI.base i x p h1 h3 (Blk.live_of_mut h2)).1 (h4 ▸ hb)
    rcases hsn with hsn | ⟨r0, hc, hsn⟩
    · exact ⟨u, r1, u, π', st'.heap, packA vs', rfl, key _ _ hR'.inv, hR'.inv, r2, hsn⟩
    · obtain ⟨g2, g1⟩ := hR'.inv.addFree (n := st'.heap.length) (Nat.le_refl _) (fun q h => by have := getElem?_lt h; have := hR'.inv.len; omega) (.own [])
      exact ⟨u, r1, u, _, _, r0, rfl, key _ _ g1, g1, hc _ _ _ _ (Rv.ext g2 _ _ r2), hsn⟩
  cases x with
  | normal => obtain ⟨vs', h1, h2⟩ := hq; exact ⟨hR'.defers, fin vs' h1 h2⟩
  | ret => obtain ⟨vs', h1, h2⟩ := hq; exact ⟨hR'.defers, fin vs' h1 h2⟩
  | exit id => exact hq.elim

/-- A caller's answer. -/
theorem callOk_new {f : FuncId} {args args' : List AV} {H : List Blk} {l : List Nat} {r : Nat → AV} {cs : List AV} (hsn : SnL H (fun b => l.contains b) args args') (hrun : FnNew P f args' r cs) : CallOk P f args H (.loc (r H.length) (freezeW H l ++ [(H.length, .own cs)]) l 1) := by
  intro H' hlen hag out B w π vs hI hπ ha
  obtain ⟨hfI, hfE, hfl, hf1, hf2⟩ := freezeW_sound l H' H hI (fun b hb hlt => .inl (hag b hb hlt))
  have hmu := Ext.mu_mono hfI hfE
  have hL : Look w (muOf out π H') (muOf out π (updAll H' (freezeW H l))) π H (fun b => l.contains b) := by
    intro b p cs hok hbl hp
    have hbm : b ∈ l := by simpa using hok
    have hblt : b < H.length := by rcases hbl with h | h <;> exact getElem?_lt h
    have hbl' : H'[b]? = some (.own cs) ∨ H'[b]? = some (.fix cs) := by rw [hag b hbm hblt]; exact hbl
    refine ⟨blk_cells hI hbl' hp, ?_⟩
    have hlive : ∃ y, H'[b]? = some y ∧ y.isLive = true := by rcases hbl' with h | h <;> exact ⟨_, h, rfl⟩
    obtain ⟨y, hy, hyl⟩ := hlive
    have hge := hI.base b y p hy hp hyl
    have hfx : (updAll H' (freezeW H l))[b]? = some (.fix cs) := by
      rcases hbl with h | h
      · exact hf1 b hbm cs h
      · rw [hf2 b (fun cs' _ h' => by rw [h] at h'; cases h'), hag b hbm hblt]; exact h
    rintro (h | ⟨i, x, q, h1, h2, h3, h4⟩)
    · exact hge.1 (hI.out_lt _ h)
    · by_cases hib : i = b
      · subst hib; rw [hfx] at h1; cases h1; simp [Blk.isMut] at h2
      · exact hfI.sep i b x (.fix cs) q p hib h1 hfx h3 hp h2 rfl h4
  have ha' : RvL w (muOf out π (updAll H' (freezeW H l))) [] args' vs := hsn w _ _ π vs hL hmu ha
  refine (hrun _ w vs (muOf_lt hfI) ha').mono ?_
  rintro e w' ⟨u, πG, G, r0, rfl, k1, k2, k3, hbr⟩
  obtain ⟨n, hbr⟩ := hbr l H
  obtain ⟨π', q1, q2, q3, q4⟩ := bring_sound hbr hlen hag hI hπ k1 k2 k3
  exact ⟨u, π', rfl, q1, q2, q3, q4⟩
end
theorem set_same {α : Type} : ∀ (l : List α) (i : Nat) (x : α), l[i]? = some x → l.set i x = l
  | [], _, _, h => by simp at h
  | y :: l, 0, x, h => by simp at h; subst h; rfl
  | y :: l, i + 1, x, h => by simp only [List.set_cons_succ, set_same l i x (by simpa using h)]
/-- A length in a block's cell, spelled otherwise. -/
theorem Wk.recell (i j : Nat) {b len es : Nat} (len' : Nat) {s : List AV} {h : List Blk} {cs : List AV} (hb : h[i]? = some (.own cs)) (hc : cs[j]? = some (.hs b 0 len es)) (hl : len = len') : Wk K ⟨s, h⟩ ⟨s, h.set i (.own (cs.set j (.hs b 0 len' es)))⟩ := by
  subst hl
  rw [set_same cs j _ hc, set_same h i _ hb]
  exact Wk.refl _
end Go.Eng
