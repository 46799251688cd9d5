import Derived.Test.YtndmnfmpbcecaaaSc11hhfbglje
import Derived.Shelf.SlLaysE0
import Derived.Shelf.SlicesE.Kit
import Derived.Shelf.RegionOpenPlain
import Derived.WalkKit
import Derived.Deep.LoopGhost
import Derived.Deep.RegionLaw
import Derived.Lib.Walk
import Derived.Sort.WalkB12
import Derived.Lib.SliceRun
set_option linter.all false
set_option linter.unusedVariables false
namespace Go.Eng
open Go Go.RowKit Go.Proofs Go.Shelf Go.Lib
section
variable {P : Program} {ρ : Ren}
theorem run_clearK (w : World) (t e ty : TypeId) (z : Value) (k : Nat) (ht : P.underlying t = some (.slice e)) (hv : ∀ w, (zeroValue e).run P w = .ok z w) (hz : z.cells.size = k) (h1 : ∀ v ∈ z.cells.toList, v.oneCell' = true) (hk : 0 < k) (b o n c : Nat) (hn : 0 < n)
  (hc : ∀ j, j < n * k → (w.cell? ⟨b, o + j, none⟩).isSome = true) (hf : ∀ j, j < n * k → w.frozen? ⟨b, o + j, none⟩ = false) :
  (Builtin.clear_ #[t] ty #[.slice (some ⟨b, o, none⟩) n c]).run P w = .ok (.tuple #[]) (w.setCells b o (List.replicate n z.cells.toList).flatten) := by
 have hzc : (Builtin.zeroCells z.cells n).toList = (List.replicate n z.cells.toList).flatten := madeCells_eq z.cells n (by omega)
 have hlen : ((List.replicate n z.cells.toList).flatten).length = n * k := by simp [hz]
 have hst := run_storeCells_cells (P := P) b o ((List.replicate n z.cells.toList).flatten) 0 w (by rw [hlen]; simpa using hc) (by rw [hlen]; simpa using hf) (by
  intro v hv'
  obtain ⟨l, hl, hv'⟩ := List.mem_flatten.1 hv'
  rw [List.eq_of_mem_replicate hl] at hv'
  exact h1 v hv')
 simp only [Nat.add_zero] at hst
 obtain ⟨m, rfl⟩ : ∃ m, n = m + 1 := ⟨n - 1, by omega⟩
 simp [Builtin.clear_, run_underlying ht, hv, hzc, hst]
theorem some_setCells (b : Nat) (vs : List Value) (o : Nat) (w : World) (x : Addr) (h : (w.cell? x).isSome = true) (hv : ∀ j, j < vs.length → (w.cell? ⟨b, o + j, none⟩).isSome = true) : ((w.setCells b o vs).cell? x).isSome = true := by
 by_cases hx : x.block = b ∧ x.spot = none ∧ o ≤ x.off ∧ x.off < o + vs.length
 · obtain ⟨h1, h2, h3, h4⟩ := hx
   have e : x = ⟨b, o + (x.off - o), none⟩ := by
    obtain ⟨xb, xo, xs⟩ := x
    simp only at h1 h2 h3 h4
    subst h1; subst h2
    show (⟨xb, xo, none⟩ : Addr) = ⟨xb, o + (xo - o), none⟩
    rw [show o + (xo - o) = xo by omega]
   rw [e, World.cell?_setCells_in b vs o w hv (x.off - o) (by omega)]; rfl
 · rw [World.cell?_setCells_out b vs o w x (fun h1 h2 => by
    rcases Nat.lt_or_ge x.off o with h | h
    · exact .inl h
    · exact .inr (Nat.le_of_not_lt fun h' => hx ⟨h1, h2, h, h'⟩))]
   exact h
set_option maxHeartbeats 4000000 in
set_option maxRecDepth 1000000 in
theorem run_delK (L : SlLaysE0.n45 P ρ) (k : Nat) (zE : ∀ w, (Go.sizeOf (ρ.t 23)).run P w = .ok k w) (z : Value) (v23 : ∀ w, (zeroValue (ρ.t 23)).run P w = .ok z w) (zs : List Value) (hzs : z.cells.toList = zs) (hz : zs.length = k) (hz1 : ∀ v ∈ zs, v.oneCell' = true)
  (i0 : TypeInfo) (hi0 : P.info? (ρ.t 23) = some i0) (hik : i0.size = k) (hk : 0 < k) (blk off cap n i j : Nat) (w : World) (vs : List Value) (hvl : vs.length = n * k) (hc : ∀ t v, vs[t]? = some v → w.cell? ⟨blk, off + t, none⟩ = some v)
  (hf : ∀ t, t < n * k → w.frozen? ⟨blk, off + t, none⟩ = false) (h1 : ∀ v ∈ vs, v.oneCell' = true) (hcap : n ≤ cap) (hij : i < j) (hj : j ≤ n) :
  Calls P (ρ.f 45) #[.slice (some ⟨blk, off, none⟩) n cap, .int .i64 i, .int .i64 j] w fun e w' => e = .returned (.slice (some ⟨blk, off, none⟩) (n - (j - i)) cap) ∧
   w' = (w.drew.setCells blk (off + i * k) (vs.drop (j * k))).setCells blk (off + (i + (n - j)) * k) (List.replicate (j - i) zs).flatten := by
 have mixed := L.mixed; have t0 := L.t0; have a0 := L.a0; have z0 := L.z0; have v0 := L.v0; have t3 := L.t3; have a3 := L.a3; have z3 := L.z3; have v3 := L.v3; have t4 := L.t4; have a4 := L.a4; have z4 := L.z4; have v4 := L.v4; have t22 := L.t22; have a22 := L.a22; have z22 := L.z22; have v22 := L.v22
 obtain ⟨news, hnews⟩ : ∃ news, news = vs.drop (j * k) := ⟨_, rfl⟩
 have hjk : j * k ≤ n * k := Nat.mul_le_mul_right k hj
 have hik' : i * k ≤ j * k := Nat.mul_le_mul_right k (Nat.le_of_lt hij)
 have hlen : news.length = (n - j) * k := by rw [hnews, List.length_drop, hvl, Nat.sub_mul]
 have hsome : ∀ t, t < n * k → (w.cell? ⟨blk, off + t, none⟩).isSome = true := fun t ht => by
  rw [hc t vs[t] (by rw [List.getElem?_eq_getElem])]; rfl
 obtain ⟨A, hA, hsrc⟩ : ∃ A : Addr, (if cap = j then some (⟨blk, off, none⟩ : Addr) else some ⟨blk, off + j * k, none⟩) = some A ∧ Hid (∀ t u, news[t]? = some u → w.drew.cell? (A.add t) = some u) := by
  by_cases h : cap = j
  · refine ⟨⟨blk, off, none⟩, by simp [h], fun t u hu => ?_⟩
    have h0 : news.length = 0 := by rw [hlen, show n - j = 0 by omega, Nat.zero_mul]
    rw [List.length_eq_zero_iff.1 h0] at hu
    simp at hu
  · refine ⟨⟨blk, off + j * k, none⟩, by simp [h], fun t u hu => ?_⟩
    rw [hnews, List.getElem?_drop] at hu
    rw [Addr.add_lit, show off + j * k + t = off + (j * k + t) by omega]
    exact hc _ _ hu
 have s1 : Hid (news.length = (n - j) * k) := hlen
 have s2 : Hid (∀ u ∈ news, u.oneCell' = true) := fun u hu => h1 u (List.mem_of_mem_drop (by rw [← hnews]; exact hu))
 have hmul : (n - j) * k = n * k - j * k := Nat.sub_mul _ _ _
 have hmul2 : (i + (n - j)) * k = i * k + (n * k - j * k) := by rw [Nat.add_mul, hmul]
 have hmul3 : (j - i) * k = j * k - i * k := Nat.sub_mul _ _ _
 have s3 : Hid (∀ t, t < news.length → (w.drew.cell? ⟨blk, off + i * k + t, none⟩).isSome = true ∧ w.drew.frozen? ⟨blk, off + i * k + t, none⟩ = false) := by
  intro t ht
  rw [hlen, hmul] at ht
  rw [Nat.add_assoc]
  exact ⟨hsome _ (by omega), hf _ (by omega)⟩
 obtain ⟨W1, hW1⟩ : ∃ W1, W1 = w.drew.setCells blk (off + i * k) news := ⟨_, rfl⟩
 have hcl : ∀ ty, (Builtin.clear_ #[ρ.t 22] ty #[.slice (some ⟨blk, off + (i + (n - j)) * k, none⟩) (n - (i + (n - j))) (cap - (i + (n - j)))]).run P W1 = .ok (.tuple #[]) (W1.setCells blk (off + (i + (n - j)) * k) (List.replicate (n - (i + (n - j))) zs).flatten) :=
  fun ty => hzs ▸ run_clearK W1 _ _ ty _ k t22 v23 (by rw [← hz, ← hzs, Array.length_toList]) (by rw [hzs]; exact hz1) hk blk _ _ _ (by omega) (fun t ht => by
   rw [show n - (i + (n - j)) = j - i by omega, hmul3] at ht
   rw [hW1, hmul2, Nat.add_assoc]
   refine some_setCells _ _ _ _ _ (hsome _ (by omega)) fun u hu => (s3.out u hu).1) (fun t ht => by
   rw [show n - (i + (n - j)) = j - i by omega, hmul3] at ht
   rw [hW1, World.frozen?_setCells, hmul2, Nat.add_assoc]
   exact hf _ (by omega))
 have hW : Hid (W1 = w.drew.setCells blk (off + i * k) news) := hW1
 have hN : Hid (news = vs.drop (j * k)) := hnews
 have hic : i ≤ cap := by omega
 have hjc : j ≤ cap := by omega
 clear hzs hz hz1 hW1 hnews hlen hsome hjk hik' hmul hmul2 hmul3 hc hf h1 hvl
 obtain ⟨_, _, FG⟩ := L.f45
 go_enter FG, SlBodyN.n45_ntmps ρ
 go_wp2_with fail
 go_region_law_o (refine step_append_room rfl (.tmp 22) (.tmp 25) (ρ.t 22) rfl (ρ.t 23) i0 k t22 hi0 hik blk off i cap (by simp [Act.eval, Act.put]) A (n - j) (cap - j) news (by simp [Act.eval, Act.put]) s1.out hsrc.out s2.out (by omega) s3.out ?_; rw [← hW.out])
 go_wp2
 go_ret
 refine ⟨by rw [show n - (j - i) = i + (n - j) by omega]; rfl, ?_⟩
 rw [hW.out, hN.out, show n - (i + (n - j)) = j - i by omega]
end
def DelContract (P : Program) (f : FuncId) (k : Nat) (zs : List Value) : Prop := ∀ (blk off cap n i j : Nat) (w : World) (vs : List Value), vs.length = n * k → (∀ t v, vs[t]? = some v → w.cell? ⟨blk, off + t, none⟩ = some v) →
 (∀ t, t < n * k → w.frozen? ⟨blk, off + t, none⟩ = false) → (∀ v ∈ vs, v.oneCell' = true) → n ≤ cap → i < j → j ≤ n →
 Calls P f #[.slice (some ⟨blk, off, none⟩) n cap, .int .i64 i, .int .i64 j] w fun e w' => e = .returned (.slice (some ⟨blk, off, none⟩) (n - (j - i)) cap) ∧
  w' = (w.drew.setCells blk (off + i * k) (vs.drop (j * k))).setCells blk (off + (i + (n - j)) * k) (List.replicate (j - i) zs).flatten
section
variable [Dr]
variable {K : Nat} {P : Program}
end
end Go.Eng

