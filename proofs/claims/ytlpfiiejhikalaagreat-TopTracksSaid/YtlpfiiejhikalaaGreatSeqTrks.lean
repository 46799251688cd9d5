import Derived.RangeFuncBox
import Derived.RangeFuncLeaves
import Derived.RangeFuncCalls
import Derived.Shelf.Abstract
import Derived.WalkKit
import Derived.OwnWalkIn
import Derived.TacticsInMore
import Derived.LoopNIn
import Derived.LoopIn
import Derived.Maps.AppendAt
import Derived.Test.YtlpfiiejhikalaaGreatSc11Trks
import Derived.Test.YtlpfiiejhikalaaGreatChecked
set_option linter.all false
set_option linter.unusedVariables false
namespace Go.Proofs.YtlpfiiejhikalaaGreat
open Go Go.RowKit Go.Shelf Go.Proofs
attribute [local go_sem] Oper.semAt_some
def tp {α : Type} (f : Nat -> α) (k : Nat) : List α := (List.range k).map f
theorem xU {α : Type} (f : Nat -> α) (k : Nat) : tp f (k + 1) = tp f k ++ [f k] := by simp [tp, List.range_succ]
theorem ug {α : Type} (f : Nat -> α) (k : Nat) : (tp f k).length = k := by simp [tp]
def atS (zs : List Int) (j : Nat) : Int := zs[j]?.getD 0
theorem yv (zs : List Int) : tp (atS zs) zs.length = zs := by
 apply List.ext_getElem
 · simp [tp]
 · intro i h1 h2
   simp only [tp, atS, List.getElem_map, List.getElem_range]
   rw [geT h2]; rfl
def xH (n₀ : Nat) (W : World) (sv : Value) (zs : List Int) : Prop :=
 ((∃ a cap, sv = .slice a 0 cap) /\ zs = []) \/ ∃ b off cap, sv = .slice (some ⟨b, off, none⟩) zs.length cap /\ (zs ≠ [] -> b < n₀) /\ ∀ j, j < zs.length -> W.cell? ⟨b, off + j, none⟩ = some (.int .u64 (zs[j]?.getD 0))
theorem xH.below {n₀ : Nat} {A B : World} (h : Below n₀ A B) {sv : Value} {zs : List Int} : xH n₀ A sv zs -> xH n₀ B sv zs
 | .inl e => .inl e
 | .inr ⟨b, off, cap, e, hb, hc⟩ => .inr ⟨b, off, cap, e, hb, fun j hj => (h.cell (p := ⟨b, off + j, none⟩) (hb (by rintro rfl; simp at hj))).trans (hc j hj)⟩
def KS (n₀ Bs ob : Nat) (W W' : World) : Prop := Below n₀ W W' /\ W'.cell? ⟨Bs, ob, none⟩ = W.cell? ⟨Bs, ob, none⟩
theorem KS.refl (n₀ Bs ob : Nat) (W : World) : KS n₀ Bs ob W W := ⟨Below.refl _ _, rfl⟩
theorem KS.trans {n₀ Bs ob : Nat} {A B C : World} (h : KS n₀ Bs ob A B) (k : KS n₀ Bs ob B C) : KS n₀ Bs ob A C := ⟨h.1.trans k.1, k.2.trans h.2⟩
theorem KS.putObj {n₀ Bs ob : Nat} {w : World} (hn : n₀ <= w.heap.size) (hb : Bs < w.heap.size) (W : World) (l : Nat) (o o' : Obj) (hl : w.heap.size <= l) (h : W.heap[l]? = some o) (h1 : o.isCells = false) (h2 : o.isWalk = false) : KS n₀ Bs ob W (W.putObj l o') :=
 ⟨belowK_b hn W l o o' hl h h1 h2, (belowK_b (n₀ := Bs + 1) (w := w) (by omega) W l o o' hl h h1 h2).cell (p := ⟨Bs, ob, none⟩) (Nat.lt_succ_self _)⟩
set_option maxRecDepth 100000 in
set_option maxHeartbeats 2000000 in
theorem Ae (F : Fence) (n : Nat) (hf : F.fn 44) (hro : F.round = none) (hn : 1 <= n) (l Bs ob n₀ b off cap : Nat) (zs : List Int) (hreach : zs.length <= 1099511627776) (hb : zs ≠ [] -> b < n₀) (J Jx : List Int -> World -> Prop)
  (hY : ∀ pre x W, J pre W -> pre.length < zs.length -> YieldAt F (n - 1) Tryz.prog l #[.int .u64 x] W fun e W' =>
   (e = .returned (.bool true) /\ J (pre ++ [x]) W' /\ KS n₀ Bs ob W W') \/ (e = .returned (.bool false) /\ Jx (pre ++ [x]) W'))
  (W : World) (hBs : W.cell? ⟨Bs, ob, none⟩ = some (.slice (some ⟨b, off, none⟩) zs.length cap)) (hc : ∀ j, j < zs.length -> W.cell? ⟨b, off + j, none⟩ = some (.int .u64 (zs[j]?.getD 0))) (h0 : J [] W) :
  CallsIn F n Tryz.prog 44 #[.func (.yield l) #[] #[], .pointer (some ⟨Bs, ob, none⟩)] W fun e W' => (∃ v, e = .returned v) /\
   ((∃ ys, ys = zs /\ J ys W') \/ (∃ pre, True /\ Jx pre W')) := by
 refine callsIn_of_wp Tryz.func44 rfl hf ?_ hro
 simp only [Tryz.ntmps44, List.size_toArray, List.length_cons, List.length_nil, Nat.reduceAdd, Nat.reduceSub, Array.replicate_succ, Array.replicate_zero, List.push_toArray, List.append_toArray, List.nil_append, List.cons_append]
 gi_wp2
 gi_loopw [7] (fun i wr => ∃ k : Nat, k <= zs.length /\ i = .int .i64 (k : Int) /\ J (tp (atS zs) k) wr /\ KS n₀ Bs ob W wr)
  (fun i _ => zs.length - (intOf i).toNat)
 case atStart => exact ⟨0, Nat.zero_le _, by first | rfl | simp, h0, KS.refl _ _ _ _⟩
 case round =>
  obtain ⟨k, hk, rfl, hJs, hnx⟩ := hrel
  by_cases hlt : k < zs.length
  · have hne : zs ≠ [] := by rintro rfl; simp at hlt
    have hcx : wr.cell? ⟨b, off + k, none⟩ = some (.int .u64 (zs[k]?.getD 0)) := (hnx.1.cell (p := ⟨b, off + k, none⟩) (hb hne)).trans (hc _ hlt)
    have hBs' := hnx.2.trans hBs
    obtain ⟨fn, tmps, assign, body, hy, hR⟩ := hY _ (atS zs k) wr hJs (by rw [ug]; exact hlt)
    have e0 : atS zs k = zs[k] := by simp [atS, hlt]
    have e1 : zs[k]?.getD 0 = zs[k] := by simp [hlt]
    rw [e0] at hy
    rw [e1] at hcx
    gi_wp2
    refine hR.mono ?_
    rintro e W3 (⟨rfl, hJ3, hk3⟩ | ⟨rfl, hJx3⟩)
    · gi_wp2
      go_roundw
      case rel => exact ⟨k + 1, by omega, by (congr 1), by rw [xU]; exact hJ3, hnx.trans hk3⟩
      case measure => (simp only [intOf, List.getD_eq_getElem?_getD]; first | omega | (simp; done) | (simp; omega))
    · gi_wp2
      refine bodyPost_ret (results_none rfl _ _ _) rfl ?_
      exact ⟨⟨_, rfl⟩, .inr ⟨_, trivial, hJx3⟩⟩
  · obtain rfl : k = zs.length := by omega
    gi_wp2
    go_end0
    exact ⟨⟨_, rfl⟩, .inl ⟨_, rfl, by rw [yv] at hJs; exact hJs⟩⟩
set_option maxRecDepth 100000 in
set_option maxHeartbeats 1000000 in
theorem uS (F : Fence) (n : Nat) (hf : F.fn 44) (hro : F.round = none) (l Bs ob : Nat) (J : List Int -> World -> Prop) (W : World) {a : Option Addr} {cap : Nat} (hBs : W.cell? ⟨Bs, ob, none⟩ = some (.slice a 0 cap)) (h0 : J [] W) :
  CallsIn F n Tryz.prog 44 #[.func (.yield l) #[] #[], .pointer (some ⟨Bs, ob, none⟩)] W fun e W' => (∃ v, e = .returned v) /\ J [] W' := by
 refine callsIn_of_wp Tryz.func44 rfl hf ?_ hro
 simp only [Tryz.ntmps44, List.size_toArray, List.length_cons, List.length_nil, Nat.reduceAdd, Nat.reduceSub, Array.replicate_succ, Array.replicate_zero, List.push_toArray, List.append_toArray, List.nil_append, List.cons_append]
 gi_wp2
 gi_loopw [7] (fun i wr => i = .int .i64 0 /\ J [] wr) (fun _ _ => 0)
 case atStart => exact ⟨rfl, h0⟩
 case round =>
  obtain ⟨rfl, hJs⟩ := hrel
  gi_wp2
  go_end0
  exact ⟨⟨_, rfl⟩, hJs⟩
theorem ya (F : Fence) (n : Nat) (hf : F.fn 44) (hro : F.round = none) (hn : 1 <= n) (Bs ob n₀ : Nat) (sv : Value) (zs : List Int) (hreach : zs.length <= 1099511627776) (w : World) (hBl : Bs < w.heap.size) (hn₀ : n₀ <= w.heap.size)
  (hc : w.cell? ⟨Bs, ob, none⟩ = some sv) (hI : xH n₀ w sv zs) :
  SeqStopsK F n Tryz.prog 44 #[.pointer (some ⟨Bs, ob, none⟩)] (fun x : Int => #[.int .u64 x]) (KS n₀ Bs ob) (fun ys => ys = zs) (fun _ => True) zs.length w := fun l J Jx W hW _ _ hY h0 => by
 have hc' := (hW.cell (p := ⟨Bs, ob, none⟩) hBl).trans hc
 rcases hI.below (hW.mono hn₀) with ⟨⟨a0, cap0, rfl⟩, rfl⟩ | ⟨b, off, cap, rfl, hb, hcs⟩
 · exact (uS F n hf hro l Bs ob J W hc' h0).mono fun e W' ⟨he, hj⟩ => ⟨he, .inl ⟨_, rfl, hj⟩⟩
 · exact Ae F n hf hro hn l Bs ob n₀ b off cap zs hreach hb J Jx hY W hc' hcs h0
theorem zK : (Tryz.prog.info? 76).map (fun i => (i.zero, i.size, i.bytes)) = some (some (.int .u64 0), 1, 8) := by kernel_rfl
set_option maxRecDepth 100000 in
set_option maxHeartbeats 2000000 in
theorem tk (F : Fence) (n : Nat) (h3 : F.fn 60) (h5 : F.fn 44) (hro : F.round = none) (hn : 3 <= n) (Bs ob : Nat) (sv : Value) (zs : List Int) (hreach : zs.length < 1099511627776) (w : World) (hBl : Bs < w.heap.size)
  (hcB : w.cell? ⟨Bs, ob, none⟩ = some sv) (hI : xH w.heap.size w sv zs) :
  CallsIn F n Tryz.prog 60 #[.slice none 0 0, .func (.func 44) #[] #[.pointer (some ⟨Bs, ob, none⟩)]] w fun e W' => ∃ v, e = .returned v /\ W'.ownsRow w.heap.size 76 1 v zs.length (zs.map (Value.int .u64)) /\ Below w.heap.size w W' := by
 have h1 : 1 <= n := by omega
 obtain ⟨i0, hi, hz0, hz1, hz2⟩ := info_parts zK
 refine callsIn_of_wp_marks Tryz.func60 rfl h3 ?_ hro
 simp only [Tryz.ntmps60, List.size_toArray, List.length_cons, List.length_nil, Nat.reduceAdd, Nat.reduceSub, Array.replicate_succ, Array.replicate_zero, List.push_toArray, List.append_toArray, List.nil_append, List.cons_append]
 gi_wp2
 have bO := Boxed.new w 33 (.slice none 0 0)
 have hB0 : Below w.heap.size w (w.alloc (.cells #[.slice none 0 0] 33)) := (Below.refl _ w).alloc (Nat.le_refl _) _
 refine wpIn_rangeFunc_ownF hro h1 (gf := 44) (lb := #[.pointer (some ⟨Bs, ob, none⟩)]) rfl h5 (enters_of Tryz.func44 (by kernel_rfl) rfl)
  (ya F (n - 1) h5 hro (by omega) Bs ob w.heap.size sv zs (by omega) _ (by simp; omega) (by simp) ((hB0.cell (p := ⟨Bs, ob, none⟩) hBl).trans hcB) (hI.below hB0)) KS.trans (KS.putObj (by simp) (by simp; omega)) (Below.refl _ _) (fun _ => rfl)
  (fun pre W => (∃ v, Boxed W w.heap.size 33 v /\ W.ownsRow w.heap.size 76 1 v pre.length (pre.map (Value.int .u64)) /\ True) /\ Below w.heap.size w W)
  (fun _ _ _ => False)
  (OwnFrom.and (Own.from (holdsRow_own w.heap.size w.heap.size 33 76 1 (fun pre : List Int => pre.length) (fun pre => pre.map (Value.int .u64)) (fun _ _ => True)) _) (ownFrom_below (Nat.le_refl _) (by simp)))
  (fun _ _ _ _ _ hs _ _ => hs)
  ⟨⟨_, bO, World.ownsRow_nil _ _ _ _, trivial⟩, hB0⟩
  (fun x => { tmps := #[.slice none 0 0, .func (.func 44) #[] #[.pointer (some ⟨Bs, ob, none⟩)], .pointer (some ⟨w.heap.size, 0, none⟩), undef, .slice none 0 0, .int .u64 x, .func (.func 44) #[] #[.pointer (some ⟨Bs, ob, none⟩)], .int .u64 x, undef, undef, undef, undef, undef], defers := [] }) ?assign ?body ?done ?stop
 case assign =>
  intro l x W K hK
  gi_wp2
  exact hK
 case body =>
  rintro l pre x W ⟨⟨v, hv, hrow, _⟩, hB⟩ hlt
  have hc := hv.cell
  have hd : 33 ≠ 76 := by decide
  gi_wp2_with (gi_at_builtin; refine wpListIn_append_own _ rfl _ _ 33 rfl w.heap.size 76 i0 (.int .u64 0) 1 8 Tryz.underlying33 hi hz0 hz1 hz2 rfl (by decide) _ _ _ rfl (hrow.alloc _) ⟨W.heap.size, 0, none⟩ 1 1 [.int .u64 x] rfl rfl (cell_one_new _ _ _) (by simp [Value.oneCell']) (by unfold maxLen; omega) (by omega) (by have := hB.size; simp; omega) ?_; intro v' w1 hown' hgrow _; obtain ⟨g', cap', rfl⟩ := ownsRow_succ hown'; obtain ⟨hv1, hv2, hr2, hk2, hb2⟩ := hv.appended hd hrow hB.size (Nat.le_refl _) hown' hgrow; have hc1 := hv1.cell; have hf1 := hv1.frozen)
  exact ⟨hk2, ⟨hb2, hb2.cell (p := ⟨Bs, ob, none⟩) hBl⟩, ⟨_, hv2, by simpa using hr2, trivial⟩, hB.trans hb2⟩
 case done =>
  rintro D ys W hD rfl ⟨⟨v, hv, hrow, _⟩, hB⟩ hK
  have hc := hv.cell
  gi_wp2
  refine ⟨by simp, .inl ⟨_, _, rfl, run_takeDeferred hK, ?_⟩⟩
  exact ⟨_, results_tmp rfl _ _ _, v, rfl, ownsRow_putObj hrow _ hK rfl, hB.trans (belowK_b (w := w) (Nat.le_refl _) W D _ _ (by simp at hD; omega) hK rfl rfl)⟩
 case stop =>
  rintro D c pre W _ _ h _
  exact h.elim
open Go.Eng in
theorem rr {w : World} {mu : Nat -> Prop} {Z : List (Option PB)} : ∀ (l : List Int) (b o : Nat), RvC w mu Z (l.flatMap (iC .u64)) b o -> ∀ j, j < l.length -> w.cell? ⟨b, o + j, none⟩ = some (.int .u64 (l[j]?.getD 0))
 | [], _, _, _, j, hj => by simp at hj
 | x :: l, b, o, h, j, hj => by
  obtain ⟨⟨v, h1, _, h2⟩, h3⟩ := h
  cases j with
  | zero => rw [show v = Value.int .u64 x from h2] at h1; simpa using h1
  | succ j =>
   have := rr l b (o + 1) h3 j (by simpa using hj)
   rw [show o + 1 + j = o + (j + 1) by omega] at this
   simpa using this
open Go.Eng in
theorem Af {w : World} {mu : Nat -> Prop} {Z : List (Option PB)} {l : List Int} {v : Value} (h : Rv w mu Z (slT (iC .u64) l) v) : xH w.heap.size w v l := by
 rcases h with ⟨_, h1, _, rfl⟩ | ⟨b, o, cap, rfl, h1, h2, h3⟩ | ⟨h1, h2, a, cap, rfl⟩
 · exact .inl ⟨⟨_, _, rfl⟩, List.eq_nil_of_length_eq_zero h1⟩
 · have hc := rr l b o h3
   refine .inr ⟨b, o, cap, rfl, fun hne => ?_, hc⟩
   cases l with
   | nil => exact (hne rfl).elim
   | cons x l => exact World.block_lt_of_cell? _ ⟨b, o, none⟩ (hc 0 (by simp))
 · exact .inl ⟨⟨_, _, rfl⟩, List.eq_nil_of_length_eq_zero h1⟩
open Go.Eng in
theorem wF {w : World} {mu : Nat -> Prop} {Z : List (Option PB)} : ∀ l : List Int, RvL w mu Z (l.flatMap (iC .u64)) (l.map (Value.int .u64))
 | [] => rfl
 | x :: l => ⟨_, _, rfl, rfl, wF l⟩
open Go.Eng in
theorem zM {l : List Int} (h : decide (l.length < 1099511627776) = true) : bx 1 Tryz.prog 60 [.at (.slice none 0 0), .fn 44 [] [.hp 0 0]] [.own [slT (iC .u64) l]] (.hs 1 0 l.length 1) [.own [slT (iC .u64) l], .own (l.flatMap (iC .u64))] := by
 intro out B w Z vs hI ha
 have h := dcT h
 obtain ⟨v0, _, rfl, e0, v1, _, rfl, ⟨a, c, e1, ea, ec⟩, rfl⟩ := ha
 obtain rfl : v0 = .slice none 0 0 := e0
 subst e1
 obtain ⟨vc, _, ec, ⟨p, hp, rfl⟩, rfl⟩ := ec
 have ha : a = #[] := by apply Array.ext'; exact ea
 have hc : c = #[.pointer (some ⟨p.blk, p.off + 0, none⟩)] := by apply Array.ext'; exact ec
 subst ha; subst hc
 obtain ⟨⟨cc, e, hh, hsz⟩, ⟨sv, h1, _, h2⟩, _⟩ := hI.ok 0 _ p rfl hp
 have hl := hI.len
 have hlt : p.blk < w.heap.size := (hI.base 0 _ p rfl hp rfl).2
 have := callsIn_wide.1 (tk Fence.wide 3 trivial trivial rfl (Nat.le_refl _) p.blk (p.off + 0) sv l h w hlt h1 (Af h2))
 refine this.mono ?_
 rintro e w' ⟨v, rfl, hrow, hB⟩
 have h0 : ∀ {x : Option PB}, (Z ++ [x])[0]? = some (some p) := fun {x} => by rw [List.getElem?_append_left (by simp at hl; omega)]; exact hp
 have hpre : ∀ {x : Option PB} (i : Nat) (q : PB), Z[i]? = some (some q) -> (Z ++ [x])[i]? = some (some q) := fun {x} i q hq => by
  rw [List.getElem?_append_left (List.getElem?_eq_some_iff.1 hq).1]; exact hq
 have hl1 : Z.length = 1 := by simpa using hl
 rcases hrow.2 with ⟨rfl, hz⟩ | ⟨g, cap, cur, rfl, hg, hgb, hn, _, hcs, hcur⟩
 · have hz : l = [] := List.eq_nil_of_length_eq_zero hz
   subst hz
   obtain ⟨hI', hE⟩ := hI.uJ (w' := w') (fun b hb => hB.block b hb) hB.size hB.os hB.tape hB.output (fun e => by cases e) (Z' := Z ++ [none]) (H' := [.own [slT (iC .u64) []], .own (([] : List Int).flatMap (iC .u64))]) (by simp [hl1]) hpre (fun j x q g1 g2 => by
    rcases j with _ | _ | j
    · left
      refine ⟨g1, ?_⟩
      rw [h0] at g2; rw [hp]; exact g2
    · rw [List.getElem?_append_right (by omega)] at g2; simp [hl1] at g2
    · simp at g1)
   exact ⟨_, _, rfl, hE.ek, hI', .inl ⟨rfl, rfl⟩⟩
 · have hgl : g < w'.heap.size := (Array.getElem?_eq_some_iff.1 hgb).1
   have h1' : ∀ {x : PB}, (Z ++ [some x])[1]? = some (some x) := fun {x} => by rw [List.getElem?_append_right (by omega)]; simp [hl1]
   obtain ⟨hI', hE⟩ := hI.uJ (w' := w') (fun b hb => hB.block b hb) hB.size hB.os hB.tape hB.output (fun e => by cases e) (Z' := Z ++ [some ⟨g, 0, cur.size, fun _ => none⟩]) (H' := [.own [slT (iC .u64) l], .own (l.flatMap (iC .u64))]) (by simp [hl1]) hpre (fun j x q g1 g2 => by
    rcases j with _ | _ | j
    · left
      refine ⟨g1, ?_⟩
      rw [h0] at g2; rw [hp]; exact g2
    · right
      rw [h1'] at g2
      cases g2
      cases g1
      refine ⟨rfl, hg, hgl, fun i y q' hi g3 g4 g5 => ?_, fun hE => ⟨⟨cur, _, hgb, rfl⟩, ?_⟩⟩
      · rcases i with _ | _ | i
        · rw [h0] at g4; cases g4; cases g3
          have : p.blk = g := g5
          omega
        · exact hi rfl
        · simp at g3
      · have key : ∀ j, j < l.length -> w'.cell? ⟨g, 0 + j, none⟩ = some (.int .u64 (l[j]?.getD 0)) := fun j hj => by
         have e1 : (cur.toList.take (l.length * 1))[j]? = some (.int .u64 (l[j]?.getD 0)) := by rw [hcur, List.getElem?_map, geT hj]; rfl
         rw [List.getElem?_take, if_pos (by omega), Array.getElem?_toList] at e1
         simp only [World.cell?, hgb, Nat.zero_add]
         simpa using e1
        refine ff _ (l.map (Value.int .u64)) g 0 ?_ (by simp [Value.oneCell']) (fun j v hj => ?_)
        · exact wF l
        · have hjl : j < l.length := by have := aE hj; simpa using this
          rw [List.getElem?_map, geT hjl] at hj
          have := key j hjl
          rw [geT hjl] at this
          rw [this]; exact hj
    · simp at g1)
   refine ⟨_, _, rfl, hE.ek, hI', .inr ⟨_, ⟨g, 0, none⟩, cap, h1', rfl, hn, rfl, fun _ => ⟨rfl, ?_⟩⟩⟩
   simp only [hcs]; omega
end Go.Proofs.YtlpfiiejhikalaaGreat
