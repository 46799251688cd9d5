import Derived.Test.YtlpfiiejhikalaaGreatSc11Trks
import Derived.Sort.Grow
set_option linter.all false
set_option linter.unusedVariables false
namespace Go.Eng
open Go Go.RowKit
variable [Dr]
variable {K : Nat} {P : Program}
theorem pr {B mu : Nat -> Prop} {w : World} {Z : List (Option PB)} (os : Array Obj) (hB : ∀ b, B b -> b < w.heap.size) : Ext B w (Sort.grow w os) mu mu Z Z :=
 ⟨fun b hb => Sort.heap_grow_old w os (hB b hb), by simp, fun b hb h => ⟨Sort.heap_grow_old w os hb, h⟩, fun _ _ h => h, rfl, rfl, rfl, fun _ => Nat.le_refl _⟩
theorem Inv.A7 {out B : Nat -> Prop} {w : World} {Z : List (Option PB)} {H : List Blk} (hI : Inv out B w Z H) (os : Array Obj) : Inv out B (Sort.grow w os) Z H := by
 have hE : Ext B w (Sort.grow w os) (aH out Z H) (aH out Z H) Z Z := pr os hI.bound
 refine ⟨hI.len, fun b hb => Nat.lt_of_lt_of_le (hI.bound b hb) hE.size, hI.out_lt, fun i x p b h1 h2 h3 => ⟨(hI.baseO i x p b h1 h2 h3).1, Nat.lt_of_lt_of_le (hI.baseO i x p b h1 h2 h3).2 hE.size⟩, fun i x p h1 h2 => ?_, hI.sepO⟩
 exact cS.ext hE (fun b hb => Sort.heap_grow_old w os (hI.baseO i x p b h1 h2 hb).2) (hI.ok i x p h1 h2)
theorem wS (k : IntKind) (zs : List Int) : zs.flatMap (iC k) = zs.map fun z => AV.at (.int k z) := by
 induction zs with
 | nil => rfl
 | cons z zs ih => rw [List.flatMap_cons, ih]; rfl
theorem uY {w : World} {mu : Nat -> Prop} {Z : List (Option PB)} (k : IntKind) : ∀ zs : List Int, RvL w mu Z (zs.map fun z => AV.at (.int k z)) (zs.map (Value.int k))
 | [] => rfl
 | z :: zs => ⟨_, _, rfl, rfl, uY k zs⟩
theorem bx.row {f : FuncId} {zs zs' : List Int} (hlen : zs'.length = zs.length) (h1 : 1 <= zs.length)
  (hs : ∀ (blk off cap : Nat) (w : World), Sort.Holds (Value.int .i64) w blk off zs.toArray -> blk < w.heap.size -> Calls P f #[.slice (some ⟨blk, off, none⟩) zs.length cap] w fun e w' =>
   e = .returned (.tuple #[]) /\ ∃ n os, w' = Sort.grow (Sort.putRow (Value.int .i64) (Sort.ahead w n) blk off zs'.toArray) os) :
  bx K P f [.hs 0 0 zs.length 1] [.own (zs.flatMap (iC .i64))] (fR []) [.own (zs'.flatMap (iC .i64))] := by
 intro out B w Z vs hI ha
 obtain ⟨v, vs', rfl, hv, h0⟩ := ha
 have h0 : vs' = [] := h0
 subst h0
 rcases hv with ⟨hz, _⟩ | ⟨p, a, cap, hp, rfl, hcap, hspot, ha⟩
 · omega
 obtain ⟨rfl, hfit⟩ := ha (by omega)
 obtain ⟨⟨c, e, hb, hc⟩, hC⟩ := hI.ok 0 _ p rfl hp
 rw [wS] at hC
 have hblk := (hI.base 0 _ p rfl hp rfl).2
 have hH : Sort.Holds (Value.int .i64) w p.blk (p.off + 0) zs.toArray := by
  intro j hj
  have hj' : j < zs.length := by simpa using hj
  refine ⟨?_, by simp [World.frozen?, hb]⟩
  obtain ⟨u, g1, _, g3⟩ := RvC.get _ p.blk p.off j (.at (.int .i64 zs[j])) hC (by simp [hj'])
  have g3 : u = .int .i64 zs[j] := g3
  rw [Nat.add_zero, g1, g3]
  simp [hj']
 refine (hs p.blk (p.off + 0) cap w hH hblk).mono ?_
 rintro e w' ⟨rfl, n, os, rfl⟩
 have hj' : ∀ j v, (zs'.map (Value.int .i64))[j]? = some v -> (Sort.putRow (Value.int .i64) (Sort.ahead w n) p.blk (p.off + 0) zs'.toArray).cell? ⟨p.blk, p.off + j, none⟩ = some v := by
  intro j v hj
  have hjl : j < zs'.length := by have := aE hj; simpa using this
  have := Sort.cell?_putRow (Value.int .i64) (Sort.ahead w n) p.blk (p.off + 0) zs.toArray zs'.toArray (Sort.holds_ahead _ _ _ _ _ _ hH) (by simp [hlen]) j (by simpa using hjl)
  rw [Nat.add_zero] at this
  rw [Nat.add_zero, this]
  simp [hjl] at hj ⊢
  exact hj
 obtain ⟨hE, hI'⟩ := hI.kO (w' := Sort.putRow (Value.int .i64) (Sort.ahead w n) p.blk (p.off + 0) zs'.toArray) (i := 0) (x := .own (zs.flatMap (iC .i64))) rfl hp rfl (.own (zs'.flatMap (iC .i64)))
  (by simp) (fun b hne => by simp [Sort.putRow, Sort.mapBlock, Array.getElem?_modify, Ne.symm hne]) rfl rfl rfl (fun _ => Nat.le_add_right _ _) (fun hE => by
   refine ⟨⟨Sort.putCells (Value.int .i64) (p.off + 0) zs'.toArray c, e, by simp [Sort.putRow, Sort.mapBlock, Array.getElem?_modify, hb, Sort.onCells], by simp [Sort.putCells, hc]⟩, ?_⟩
   rw [wS .i64 zs']
   exact ff _ _ _ _ (uY .i64 zs') (fun v hv => by obtain ⟨z, _, rfl⟩ := List.mem_map.1 hv; rfl) hj')
 have hE2 : Ext B _ (Sort.grow (Sort.putRow (Value.int .i64) (Sort.ahead w n) p.blk (p.off + 0) zs'.toArray) os) (aH out Z [.own (zs'.flatMap (iC .i64))]) (aH out Z [.own (zs'.flatMap (iC .i64))]) Z Z := pr os hI'.bound
 have hE3 := hE.trans hE2
 exact ⟨_, Z, rfl, ⟨hE3.low, hE3.size, hE3.keep, hE3.os, hE3.tape, hE3.output, jX.refl Z, hE3.drawn⟩, hI'.A7 os, ⟨#[], rfl, rfl⟩⟩
end Go.Eng

