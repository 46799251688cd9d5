import Derived.Test.YtndahnebnggdmaaGreatSc11knceefag
import Derived.Sort.Grow
set_option linter.all false
set_option linter.unusedVariables false
namespace Go.Eng
open Go Go.RowKit
variable [Dr]
variable {K : Nat} {P : Program}
theorem ext_growW {B mu : Nat → Prop} {w : World} {π : List (Option PB)} (os : Array Obj) (hB : ∀ b, B b → b < w.heap.size) : Ext B w (Sort.grow w os) mu mu π π :=
 ⟨fun b hb => Sort.heap_grow_old w os (hB b hb), by simp, fun b hb h => ⟨Sort.heap_grow_old w os hb, h⟩, fun _ _ h => h, rfl, rfl, rfl, fun _ => Nat.le_refl _⟩
theorem Inv.growW {out B : Nat → Prop} {w : World} {π : List (Option PB)} {H : List Blk} (hI : Inv out B w π H) (os : Array Obj) : Inv out B (Sort.grow w os) π H := by
 have hE : Ext B w (Sort.grow w os) (muOf out π H) (muOf out π H) π π := ext_growW os hI.bound
 refine ⟨hI.len, fun b hb => Nat.lt_of_lt_of_le (hI.bound b hb) hE.size, hI.out_lt, fun i x p b h1 h2 h3 => ⟨(hI.baseO i x p b h1 h2 h3).1, Nat.lt_of_lt_of_le (hI.baseO i x p b h1 h2 h3).2 hE.size⟩, fun i x p h1 h2 => ?_, hI.sepO⟩
 exact BlkOk.ext hE (fun b hb => Sort.heap_grow_old w os (hI.baseO i x p b h1 h2 hb).2) (hI.ok i x p h1 h2)
theorem flat_iC (k : IntKind) (zs : List Int) : zs.flatMap (iC k) = zs.map fun z => AV.at (.int k z) := by
 induction zs with
 | nil => rfl
 | cons z zs ih => rw [List.flatMap_cons, ih]; rfl
theorem ints_rvL {w : World} {mu : Nat → Prop} {π : List (Option PB)} (k : IntKind) : ∀ zs : List Int, RvL w mu π (zs.map fun z => AV.at (.int k z)) (zs.map (Value.int k))
 | [] => rfl
 | z :: zs => ⟨_, _, rfl, rfl, ints_rvL k zs⟩
theorem FnMut.row {f : FuncId} {zs zs' : List Int} (hlen : zs'.length = zs.length) (h1 : 1 ≤ zs.length)
  (hs : ∀ (blk off cap : Nat) (w : World), Sort.Holds (Value.int .i64) w blk off zs.toArray → blk < w.heap.size → Calls P f #[.slice (some ⟨blk, off, none⟩) zs.length cap] w fun e w' =>
   e = .returned (.tuple #[]) ∧ ∃ n os, w' = Sort.grow (Sort.putRow (Value.int .i64) (Sort.ahead w n) blk off zs'.toArray) os) :
  FnMut K P f [.hs 0 0 zs.length 1] [.own (zs.flatMap (iC .i64))] (packA []) [.own (zs'.flatMap (iC .i64))] := by
 intro out B w π vs hI ha
 obtain ⟨v, vs', rfl, hv, h0⟩ := ha
 have h0 : vs' = [] := h0
 subst h0
 rcases hv with ⟨hz, _⟩ | ⟨p, a, cap, hp, rfl, hcap, hspot, ha⟩
 · omega
 obtain ⟨rfl, hfit⟩ := ha (by omega)
 obtain ⟨⟨c, e, hb, hc⟩, hC⟩ := hI.ok 0 _ p rfl hp
 rw [flat_iC] at hC
 have hblk := (hI.base 0 _ p rfl hp rfl).2
 have hH : Sort.Holds (Value.int .i64) w p.blk (p.off + 0) zs.toArray := by
  intro j hj
  have hj' : j < zs.length := by simpa using hj
  refine ⟨?_, by simp [World.frozen?, hb]⟩
  obtain ⟨u, g1, _, g3⟩ := RvC.get _ p.blk p.off j (.at (.int .i64 zs[j])) hC (by simp [hj'])
  have g3 : u = .int .i64 zs[j] := g3
  rw [Nat.add_zero, g1, g3]
  simp [hj']
 refine (hs p.blk (p.off + 0) cap w hH hblk).mono ?_
 rintro e w' ⟨rfl, n, os, rfl⟩
 have hj' : ∀ j v, (zs'.map (Value.int .i64))[j]? = some v → (Sort.putRow (Value.int .i64) (Sort.ahead w n) p.blk (p.off + 0) zs'.toArray).cell? ⟨p.blk, p.off + j, none⟩ = some v := by
  intro j v hj
  have hjl : j < zs'.length := by have := getElem?_lt hj; simpa using this
  have := Sort.cell?_putRow (Value.int .i64) (Sort.ahead w n) p.blk (p.off + 0) zs.toArray zs'.toArray (Sort.holds_ahead _ _ _ _ _ _ hH) (by simp [hlen]) j (by simpa using hjl)
  rw [Nat.add_zero] at this
  rw [Nat.add_zero, this]
  simp [hjl] at hj ⊢
  exact hj
 obtain ⟨hE, hI'⟩ := hI.setBlk (w' := Sort.putRow (Value.int .i64) (Sort.ahead w n) p.blk (p.off + 0) zs'.toArray) (i := 0) (x := .own (zs.flatMap (iC .i64))) rfl hp rfl (.own (zs'.flatMap (iC .i64)))
  (by simp) (fun b hne => by simp [Sort.putRow, Sort.mapBlock, Array.getElem?_modify, Ne.symm hne]) rfl rfl rfl (fun _ => Nat.le_add_right _ _) (fun hE => by
   refine ⟨⟨Sort.putCells (Value.int .i64) (p.off + 0) zs'.toArray c, e, by simp [Sort.putRow, Sort.mapBlock, Array.getElem?_modify, hb, Sort.onCells], by simp [Sort.putCells, hc]⟩, ?_⟩
   rw [flat_iC .i64 zs']
   exact RvC_of_list _ _ _ _ (ints_rvL .i64 zs') (fun v hv => by obtain ⟨z, _, rfl⟩ := List.mem_map.1 hv; rfl) hj')
 have hE2 : Ext B _ (Sort.grow (Sort.putRow (Value.int .i64) (Sort.ahead w n) p.blk (p.off + 0) zs'.toArray) os) (muOf out π [.own (zs'.flatMap (iC .i64))]) (muOf out π [.own (zs'.flatMap (iC .i64))]) π π := ext_growW os hI'.bound
 have hE3 := hE.trans hE2
 exact ⟨_, π, rfl, ⟨hE3.low, hE3.size, hE3.keep, hE3.os, hE3.tape, hE3.output, PinK.refl π, hE3.drawn⟩, hI'.growW os, ⟨#[], rfl, rfl⟩⟩
theorem FnMut.rowNil {f : FuncId} (hs : ∀ (p : Option Addr) (cap : Nat) (w : World), Calls P f #[.slice p 0 cap] w fun e w' => e = .returned (.tuple #[]) ∧ w' = w) :
  FnMut K P f [.hs 0 0 0 1] [.own []] (packA []) [.own []] := by
 intro out B w π vs hI ha
 obtain ⟨v, vs', rfl, hv, h0⟩ := ha
 have h0 : vs' = [] := h0
 subst h0
 have fin : ∀ e w', (e = Ending.returned (.tuple #[]) ∧ w' = w) → ∃ u π', e = .returned u ∧ EK K B w w' (muOf out π [.own []]) (muOf out π' [.own []]) π π' ∧ Inv out B w' π' [.own []] ∧ Rv w' (muOf out π' [.own []]) π' (packA []) u := by
  rintro e w' ⟨rfl, rfl⟩
  exact ⟨_, π, rfl, EK.id, hI, ⟨#[], rfl, rfl⟩⟩
 rcases hv with ⟨_, rfl⟩ | ⟨p, a, cap, hp, rfl, hcap, hspot, ha⟩
 · exact (hs none 0 w).mono fin
 · exact (hs (some a) cap w).mono fin
theorem insZ_perm (x : Int) : ∀ l : List Int, (Go.L.insZ x l).Perm (x :: l)
 | [] => List.Perm.refl _
 | y :: l => by
  unfold Go.L.insZ
  split
  · exact List.Perm.refl _
  · exact ((insZ_perm x l).cons y).trans (List.Perm.swap x y l)
theorem isrt_perm : ∀ l : List Int, (Go.L.isrt l).Perm l
 | [] => List.Perm.refl _
 | x :: l => (insZ_perm x _).trans ((isrt_perm l).cons x)
theorem insZ_pw (x : Int) : ∀ l : List Int, l.Pairwise (fun a b => decide (a ≤ b) = true) → (Go.L.insZ x l).Pairwise (fun a b => decide (a ≤ b) = true)
 | [], _ => List.pairwise_singleton _ _
 | y :: l, h => by
  unfold Go.L.insZ
  obtain ⟨h1, h2⟩ := List.pairwise_cons.1 h
  split
  · rename_i hxy
    refine List.pairwise_cons.2 ⟨fun z hz => ?_, h⟩
    rcases List.mem_cons.1 hz with rfl | hz
    · exact decide_eq_true hxy
    · have := of_decide_eq_true (h1 z hz); exact decide_eq_true (by omega)
  · rename_i hxy
    refine List.pairwise_cons.2 ⟨fun z hz => ?_, insZ_pw x l h2⟩
    rcases List.mem_cons.1 ((insZ_perm x l).mem_iff.1 hz) with rfl | hz
    · exact decide_eq_true (by omega)
    · exact h1 z hz
theorem isrt_pw : ∀ l : List Int, (Go.L.isrt l).Pairwise (fun a b => decide (a ≤ b) = true)
 | [] => List.Pairwise.nil
 | x :: l => insZ_pw x _ (isrt_pw l)
theorem isrt_eq (l : List Int) : Go.L.isrt l = l.mergeSort fun x y => decide (x ≤ y) :=
 List.Perm.eq_of_pairwise (le := fun a b => decide (a ≤ b) = true) (fun a b _ _ h1 h2 => by simp at h1 h2; omega) (isrt_pw l)
  (List.pairwise_mergeSort (fun a b c h1 h2 => by simp at *; omega) (fun a b => by simp; omega) l) ((isrt_perm l).trans (List.mergeSort_perm l _).symm)
theorem sort_mut {f : FuncId} (hs : ∀ (blk off cap : Nat) (zs : List Int) (w : World), Sort.Holds (Value.int .i64) w blk off zs.toArray → blk < w.heap.size → zs.length < 4611686018427387904 → Calls P f #[.slice (some ⟨blk, off, none⟩) zs.length cap] w fun e w' =>
      e = .returned (.tuple #[]) ∧ ∃ n os, w' = Sort.grow (Sort.putRow (Value.int .i64) (Sort.ahead w n) blk off (zs.mergeSort fun x y => decide (x ≤ y)).toArray) os)
 (hn : ∀ (p : Option Addr) (cap : Nat) (w : World), Calls P f #[.slice p 0 cap] w fun e w' => e = .returned (.tuple #[]) ∧ w' = w) {zs : List Int} (hz : decide (zs.length < 4611686018427387904) = true) :
 FnMut K P f [.hs 0 0 zs.length 1] [.own (zs.flatMap (iC .i64))] (packA []) [.own ((Go.L.isrt zs).flatMap (iC .i64))] := by
 cases zs with
 | nil => exact FnMut.rowNil hn
 | cons z zs =>
  exact FnMut.row (isrt_perm _).length_eq (by simp) fun blk off cap w h1 h2 => (hs blk off cap (z :: zs) w h1 h2 (of_decide_eq_true hz)).mono fun e w' ⟨e1, n, os, e2⟩ => ⟨e1, n, os, by rw [isrt_eq]; exact e2⟩
end Go.Eng

