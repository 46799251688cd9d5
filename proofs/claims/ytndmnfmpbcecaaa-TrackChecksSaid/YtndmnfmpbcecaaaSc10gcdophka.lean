import Derived.Test.YtndmnfmpbcecaaaSc11hhfbglje
import Derived.Sort.Grow
set_option linter.all false
set_option linter.unusedVariables false
namespace Go.Eng
open Go Go.RowKit
variable [Dr]
variable {K : Nat} {P : Program}
theorem ext_growW {B mu : Nat → Prop} {w : World} {π : List (Option PB)} (os : Array Obj) (hB : ∀ b, B b → b < w.heap.size) : Ext B w (Sort.grow w os) mu mu π π :=
 ⟨fun b hb => Sort.heap_grow_old w os (hB b hb), by simp, fun b hb h => ⟨Sort.heap_grow_old w os hb, h⟩, fun _ _ h => h, rfl, rfl, rfl, fun _ => Nat.le_refl _⟩
theorem Inv.growW {out B : Nat → Prop} {w : World} {π : List (Option PB)} {H : List Blk} (hI : Inv out B w π H) (os : Array Obj) : Inv out B (Sort.grow w os) π H := by
 have hE : Ext B w (Sort.grow w os) (muOf out π H) (muOf out π H) π π := ext_growW os hI.bound
 refine ⟨hI.len, fun b hb => Nat.lt_of_lt_of_le (hI.bound b hb) hE.size, hI.out_lt, fun i x p b h1 h2 h3 => ⟨(hI.baseO i x p b h1 h2 h3).1, Nat.lt_of_lt_of_le (hI.baseO i x p b h1 h2 h3).2 hE.size⟩, fun i x p h1 h2 => ?_, hI.sepO⟩
 exact BlkOk.ext hE (fun b hb => Sort.heap_grow_old w os (hI.baseO i x p b h1 h2 hb).2) (hI.ok i x p h1 h2)
theorem flat_iC (k : IntKind) (zs : List Int) : zs.flatMap (iC k) = zs.map fun z => AV.at (.int k z) := by
 induction zs with
 | nil => rfl
 | cons z zs ih => rw [List.flatMap_cons, ih]; rfl
theorem ints_rvL {w : World} {mu : Nat → Prop} {π : List (Option PB)} (k : IntKind) : ∀ zs : List Int, RvL w mu π (zs.map fun z => AV.at (.int k z)) (zs.map (Value.int k))
 | [] => rfl
 | z :: zs => ⟨_, _, rfl, rfl, ints_rvL k zs⟩
theorem FnMut.row {f : FuncId} {zs zs' : List Int} (hlen : zs'.length = zs.length) (h1 : 1 ≤ zs.length)
  (hs : ∀ (blk off cap : Nat) (w : World), Sort.Holds (Value.int .i64) w blk off zs.toArray → blk < w.heap.size → Calls P f #[.slice (some ⟨blk, off, none⟩) zs.length cap] w fun e w' =>
   e = .returned (.tuple #[]) ∧ ∃ n os, w' = Sort.grow (Sort.putRow (Value.int .i64) (Sort.ahead w n) blk off zs'.toArray) os) :
  FnMut K P f [.hs 0 0 zs.length 1] [.own (zs.flatMap (iC .i64))] (packA []) [.own (zs'.flatMap (iC .i64))] := by
 intro out B w π vs hI ha
 obtain ⟨v, vs', rfl, hv, h0⟩ := ha
 have h0 : vs' = [] := h0
 subst h0
 rcases hv with ⟨hz, _⟩ | ⟨p, a, cap, hp, rfl, hcap, hspot, ha⟩
 · omega
 obtain ⟨rfl, hfit⟩ := ha (by omega)
 obtain ⟨⟨c, e, hb, hc⟩, hC⟩ := hI.ok 0 _ p rfl hp
 rw [flat_iC] at hC
 have hblk := (hI.base 0 _ p rfl hp rfl).2
 have hH : Sort.Holds (Value.int .i64) w p.blk (p.off + 0) zs.toArray := by
  intro j hj
  have hj' : j < zs.length := by simpa using hj
  refine ⟨?_, by simp [World.frozen?, hb]⟩
  obtain ⟨u, g1, _, g3⟩ := RvC.get _ p.blk p.off j (.at (.int .i64 zs[j])) hC (by simp [hj'])
  have g3 : u = .int .i64 zs[j] := g3
  rw [Nat.add_zero, g1, g3]
  simp [hj']
 refine (hs p.blk (p.off + 0) cap w hH hblk).mono ?_
 rintro e w' ⟨rfl, n, os, rfl⟩
 have hj' : ∀ j v, (zs'.map (Value.int .i64))[j]? = some v → (Sort.putRow (Value.int .i64) (Sort.ahead w n) p.blk (p.off + 0) zs'.toArray).cell? ⟨p.blk, p.off + j, none⟩ = some v := by
  intro j v hj
  have hjl : j < zs'.length := by have := getElem?_lt hj; simpa using this
  have := Sort.cell?_putRow (Value.int .i64) (Sort.ahead w n) p.blk (p.off + 0) zs.toArray zs'.toArray (Sort.holds_ahead _ _ _ _ _ _ hH) (by simp [hlen]) j (by simpa using hjl)
  rw [Nat.add_zero] at this
  rw [Nat.add_zero, this]
  simp [hjl] at hj ⊢
  exact hj
 obtain ⟨hE, hI'⟩ := hI.setBlk (w' := Sort.putRow (Value.int .i64) (Sort.ahead w n) p.blk (p.off + 0) zs'.toArray) (i := 0) (x := .own (zs.flatMap (iC .i64))) rfl hp rfl (.own (zs'.flatMap (iC .i64)))
  (by simp) (fun b hne => by simp [Sort.putRow, Sort.mapBlock, Array.getElem?_modify, Ne.symm hne]) rfl rfl rfl (fun _ => Nat.le_add_right _ _) (fun hE => by
   refine ⟨⟨Sort.putCells (Value.int .i64) (p.off + 0) zs'.toArray c, e, by simp [Sort.putRow, Sort.mapBlock, Array.getElem?_modify, hb, Sort.onCells], by simp [Sort.putCells, hc]⟩, ?_⟩
   rw [flat_iC .i64 zs']
   exact RvC_of_list _ _ _ _ (ints_rvL .i64 zs') (fun v hv => by obtain ⟨z, _, rfl⟩ := List.mem_map.1 hv; rfl) hj')
 have hE2 : Ext B _ (Sort.grow (Sort.putRow (Value.int .i64) (Sort.ahead w n) p.blk (p.off + 0) zs'.toArray) os) (muOf out π [.own (zs'.flatMap (iC .i64))]) (muOf out π [.own (zs'.flatMap (iC .i64))]) π π := ext_growW os hI'.bound
 have hE3 := hE.trans hE2
 exact ⟨_, π, rfl, ⟨hE3.low, hE3.size, hE3.keep, hE3.os, hE3.tape, hE3.output, PinK.refl π, hE3.drawn⟩, hI'.growW os, ⟨#[], rfl, rfl⟩⟩
end Go.Eng

