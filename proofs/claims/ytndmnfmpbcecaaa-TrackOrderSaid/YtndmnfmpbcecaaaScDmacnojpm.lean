import Derived.Test.YtndmnfmpbcecaaaSc11diaephod
import Derived.Shelf.SlLaysE0
import Derived.Shelf.SlicesE.Kit
import Derived.Shelf.RegionOpenPlain
import Derived.WalkKit
import Derived.Deep.LoopGhost
import Derived.Deep.RegionLaw
import Derived.Lib.Walk
import Derived.Sort.WalkB12
import Derived.Lib.SliceRun
set_option linter.all false
set_option linter.unusedVariables false
namespace Go.Eng
open Go Go.RowKit Go.Proofs Go.Shelf Go.Lib
section
variable {P : Program} {ρ : Ren}
theorem run_clearK (w : World) (t e ty : TypeId) (z : Value) (k : Nat) (ht : P.underlying t = some (.slice e)) (hv : ∀ w, (zeroValue e).run P w = .ok z w) (hz : z.cells.size = k) (h1 : ∀ v ∈ z.cells.toList, v.oneCell' = true) (hk : 0 < k) (b o n c : Nat) (hn : 0 < n)
  (hc : ∀ j, j < n * k → (w.cell? ⟨b, o + j, none⟩).isSome = true) (hf : ∀ j, j < n * k → w.frozen? ⟨b, o + j, none⟩ = false) :
  (Builtin.clear_ #[t] ty #[.slice (some ⟨b, o, none⟩) n c]).run P w = .ok (.tuple #[]) (w.setCells b o (List.replicate n z.cells.toList).flatten) := by
 have hzc : (Builtin.zeroCells z.cells n).toList = (List.replicate n z.cells.toList).flatten := madeCells_eq z.cells n (by omega)
 have hlen : ((List.replicate n z.cells.toList).flatten).length = n * k := by simp [hz]
 have hst := run_storeCells_cells (P := P) b o ((List.replicate n z.cells.toList).flatten) 0 w (by rw [hlen]; simpa using hc) (by rw [hlen]; simpa using hf) (by
  intro v hv'
  obtain ⟨l, hl, hv'⟩ := List.mem_flatten.1 hv'
  rw [List.eq_of_mem_replicate hl] at hv'
  exact h1 v hv')
 simp only [Nat.add_zero] at hst
 obtain ⟨m, rfl⟩ : ∃ m, n = m + 1 := ⟨n - 1, by omega⟩
 simp [Builtin.clear_, run_underlying ht, hv, hzc, hst]
theorem some_setCells (b : Nat) (vs : List Value) (o : Nat) (w : World) (x : Addr) (h : (w.cell? x).isSome = true) (hv : ∀ j, j < vs.length → (w.cell? ⟨b, o + j, none⟩).isSome = true) : ((w.setCells b o vs).cell? x).isSome = true := by
 by_cases hx : x.block = b ∧ x.spot = none ∧ o ≤ x.off ∧ x.off < o + vs.length
 · obtain ⟨h1, h2, h3, h4⟩ := hx
   have e : x = ⟨b, o + (x.off - o), none⟩ := by
    obtain ⟨xb, xo, xs⟩ := x
    simp only at h1 h2 h3 h4
    subst h1; subst h2
    show (⟨xb, xo, none⟩ : Addr) = ⟨xb, o + (xo - o), none⟩
    rw [show o + (xo - o) = xo by omega]
   rw [e, World.cell?_setCells_in b vs o w hv (x.off - o) (by omega)]; rfl
 · rw [World.cell?_setCells_out b vs o w x (fun h1 h2 => by
    rcases Nat.lt_or_ge x.off o with h | h
    · exact .inl h
    · exact .inr (Nat.le_of_not_lt fun h' => hx ⟨h1, h2, h, h'⟩))]
   exact h
set_option maxHeartbeats 4000000 in
set_option maxRecDepth 1000000 in
theorem run_delK (L : SlLaysE0.n45 P ρ) (k : Nat) (zE : ∀ w, (Go.sizeOf (ρ.t 23)).run P w = .ok k w) (z : Value) (v23 : ∀ w, (zeroValue (ρ.t 23)).run P w = .ok z w) (zs : List Value) (hzs : z.cells.toList = zs) (hz : zs.length = k) (hz1 : ∀ v ∈ zs, v.oneCell' = true)
  (i0 : TypeInfo) (hi0 : P.info? (ρ.t 23) = some i0) (hik : i0.size = k) (hk : 0 < k) (blk off cap n i j : Nat) (w : World) (vs : List Value) (hvl : vs.length = n * k) (hc : ∀ t v, vs[t]? = some v → w.cell? ⟨blk, off + t, none⟩ = some v)
  (hf : ∀ t, t < n * k → w.frozen? ⟨blk, off + t, none⟩ = false) (h1 : ∀ v ∈ vs, v.oneCell' = true) (hcap : n ≤ cap) (hij : i < j) (hj : j ≤ n) :
  Calls P (ρ.f 45) #[.slice (some ⟨blk, off, none⟩) n cap, .int .i64 i, .int .i64 j] w fun e w' => e = .returned (.slice (some ⟨blk, off, none⟩) (n - (j - i)) cap) ∧
   w' = (w.drew.setCells blk (off + i * k) (vs.drop (j * k))).setCells blk (off + (i + (n - j)) * k) (List.replicate (j - i) zs).flatten := by
 have mixed := L.mixed; have t0 := L.t0; have a0 := L.a0; have z0 := L.z0; have v0 := L.v0; have t3 := L.t3; have a3 := L.a3; have z3 := L.z3; have v3 := L.v3; have t4 := L.t4; have a4 := L.a4; have z4 := L.z4; have v4 := L.v4; have t22 := L.t22; have a22 := L.a22; have z22 := L.z22; have v22 := L.v22
 obtain ⟨news, hnews⟩ : ∃ news, news = vs.drop (j * k) := ⟨_, rfl⟩
 have hjk : j * k ≤ n * k := Nat.mul_le_mul_right k hj
 have hik' : i * k ≤ j * k := Nat.mul_le_mul_right k (Nat.le_of_lt hij)
 have hlen : news.length = (n - j) * k := by rw [hnews, List.length_drop, hvl, Nat.sub_mul]
 have hsome : ∀ t, t < n * k → (w.cell? ⟨blk, off + t, none⟩).isSome = true := fun t ht => by
  rw [hc t vs[t] (by rw [List.getElem?_eq_getElem])]; rfl
 obtain ⟨A, hA, hsrc⟩ : ∃ A : Addr, (if cap = j then some (⟨blk, off, none⟩ : Addr) else some ⟨blk, off + j * k, none⟩) = some A ∧ Hid (∀ t u, news[t]? = some u → w.drew.cell? (A.add t) = some u) := by
  by_cases h : cap = j
  · refine ⟨⟨blk, off, none⟩, by simp [h], fun t u hu => ?_⟩
    have h0 : news.length = 0 := by rw [hlen, show n - j = 0 by omega, Nat.zero_mul]
    rw [List.length_eq_zero_iff.1 h0] at hu
    simp at hu
  · refine ⟨⟨blk, off + j * k, none⟩, by simp [h], fun t u hu => ?_⟩
    rw [hnews, List.getElem?_drop] at hu
    rw [Addr.add_lit, show off + j * k + t = off + (j * k + t) by omega]
    exact hc _ _ hu
 have s1 : Hid (news.length = (n - j) * k) := hlen
 have s2 : Hid (∀ u ∈ news, u.oneCell' = true) := fun u hu => h1 u (List.mem_of_mem_drop (by rw [← hnews]; exact hu))
 have hmul : (n - j) * k = n * k - j * k := Nat.sub_mul _ _ _
 have hmul2 : (i + (n - j)) * k = i * k + (n * k - j * k) := by rw [Nat.add_mul, hmul]
 have hmul3 : (j - i) * k = j * k - i * k := Nat.sub_mul _ _ _
 have s3 : Hid (∀ t, t < news.length → (w.drew.cell? ⟨blk, off + i * k + t, none⟩).isSome = true ∧ w.drew.frozen? ⟨blk, off + i * k + t, none⟩ = false) := by
  intro t ht
  rw [hlen, hmul] at ht
  rw [Nat.add_assoc]
  exact ⟨hsome _ (by omega), hf _ (by omega)⟩
 obtain ⟨W1, hW1⟩ : ∃ W1, W1 = w.drew.setCells blk (off + i * k) news := ⟨_, rfl⟩
 have hcl : ∀ ty, (Builtin.clear_ #[ρ.t 22] ty #[.slice (some ⟨blk, off + (i + (n - j)) * k, none⟩) (n - (i + (n - j))) (cap - (i + (n - j)))]).run P W1 = .ok (.tuple #[]) (W1.setCells blk (off + (i + (n - j)) * k) (List.replicate (n - (i + (n - j))) zs).flatten) :=
  fun ty => hzs ▸ run_clearK W1 _ _ ty _ k t22 v23 (by rw [← hz, ← hzs, Array.length_toList]) (by rw [hzs]; exact hz1) hk blk _ _ _ (by omega) (fun t ht => by
   rw [show n - (i + (n - j)) = j - i by omega, hmul3] at ht
   rw [hW1, hmul2, Nat.add_assoc]
   refine some_setCells _ _ _ _ _ (hsome _ (by omega)) fun u hu => (s3.out u hu).1) (fun t ht => by
   rw [show n - (i + (n - j)) = j - i by omega, hmul3] at ht
   rw [hW1, World.frozen?_setCells, hmul2, Nat.add_assoc]
   exact hf _ (by omega))
 have hW : Hid (W1 = w.drew.setCells blk (off + i * k) news) := hW1
 have hN : Hid (news = vs.drop (j * k)) := hnews
 have hic : i ≤ cap := by omega
 have hjc : j ≤ cap := by omega
 clear hzs hz hz1 hW1 hnews hlen hsome hjk hik' hmul hmul2 hmul3 hc hf h1 hvl
 obtain ⟨_, _, FG⟩ := L.f45
 go_enter FG, SlBodyN.n45_ntmps ρ
 go_wp2_with fail
 go_region_law_o (refine step_append_room rfl (.tmp 22) (.tmp 25) (ρ.t 22) rfl (ρ.t 23) i0 k t22 hi0 hik blk off i cap (by simp [Act.eval, Act.put]) A (n - j) (cap - j) news (by simp [Act.eval, Act.put]) s1.out hsrc.out s2.out (by omega) s3.out ?_; rw [← hW.out])
 go_wp2
 go_ret
 refine ⟨by rw [show n - (j - i) = i + (n - j) by omega]; rfl, ?_⟩
 rw [hW.out, hN.out, show n - (i + (n - j)) = j - i by omega]
end
def DelContract (P : Program) (f : FuncId) (k : Nat) (zs : List Value) : Prop := ∀ (blk off cap n i j : Nat) (w : World) (vs : List Value), vs.length = n * k → (∀ t v, vs[t]? = some v → w.cell? ⟨blk, off + t, none⟩ = some v) →
 (∀ t, t < n * k → w.frozen? ⟨blk, off + t, none⟩ = false) → (∀ v ∈ vs, v.oneCell' = true) → n ≤ cap → i < j → j ≤ n →
 Calls P f #[.slice (some ⟨blk, off, none⟩) n cap, .int .i64 i, .int .i64 j] w fun e w' => e = .returned (.slice (some ⟨blk, off, none⟩) (n - (j - i)) cap) ∧
  w' = (w.drew.setCells blk (off + i * k) (vs.drop (j * k))).setCells blk (off + (i + (n - j)) * k) (List.replicate (j - i) zs).flatten
theorem del_zero {γ : Type} {c : γ → List AV} {z : γ} {zs : List Value} (hz : c z = zs.map AV.at) : ∀ m : Nat, ((List.replicate m zs).flatten).map AV.at = (List.replicate m z).flatMap c
 | 0 => rfl
 | m + 1 => by rw [List.replicate_succ, List.replicate_succ, List.flatten_cons, List.map_append, List.flatMap_cons, del_zero hz m, hz]
theorem set_flat {γ : Type} {c : γ → List AV} {k : Nat} (hc : ∀ x, (c x).length = k) {A B : List γ} {i : Nat} (h : i + B.length ≤ A.length) :
  setCells (A.flatMap c) (i * k) (B.flatMap c) = (A.take i ++ B ++ A.drop (i + B.length)).flatMap c := by
 rw [setCells_eq _ _ _ (by rw [flat_len hc, flat_len hc, ← Nat.add_mul]; exact Nat.mul_le_mul_right k h), flat_take hc, flat_len hc B, ← Nat.add_mul, flat_drop hc, ← List.flatMap_append, ← List.flatMap_append]
theorem del_cells {γ : Type} {c : γ → List AV} {k : Nat} (hc : ∀ x, (c x).length = k) {l : List γ} {i j : Nat} {z : γ} (hij : i < j) (hj : j ≤ l.length) :
  setCells (setCells (l.flatMap c) (i * k) ((l.flatMap c).drop (j * k))) ((i + (l.length - j)) * k) ((List.replicate (j - i) z).flatMap c) = (l.take i ++ l.drop j ++ List.replicate (j - i) z).flatMap c := by
 have hl : (l.take i ++ l.drop j ++ l.drop (i + (l.drop j).length)).length = l.length := by simp; omega
 have h2 : (l.take i ++ l.drop j).length = i + (l.length - j) := by simp; omega
 have h3 : (List.replicate (j - i) z).length = j - i := List.length_replicate
 rw [flat_drop hc, set_flat hc (by rw [List.length_drop]; omega), set_flat hc (by rw [hl, h3]; omega), h3, List.take_left' h2, List.drop_of_length_le (l := l.take i ++ l.drop j ++ l.drop (i + (l.drop j).length)) (by rw [hl]; omega), List.append_nil]
theorem rvL_ix {w : World} {mu : Nat → Prop} {π : List (Option PB)} : ∀ (cs : List AV) (vs : List Value), cs.length = vs.length → (∀ t (h : t < cs.length) (h' : t < vs.length), Rv w mu π cs[t] vs[t]) → RvL w mu π cs vs
 | [], [], _, _ => rfl
 | [], _ :: _, h, _ => by simp at h
 | _ :: _, [], h, _ => by simp at h
 | c :: cs, v :: vs, h, hv => ⟨v, vs, rfl, hv 0 (by simp) (by simp), rvL_ix cs vs (by simpa using h) fun t h1 h2 => hv (t + 1) (by simpa using h1) (by simpa using h2)⟩
section
variable [Dr]
variable {K : Nat} {P : Program}
theorem FnMut.del {γ : Type} {c : γ → List AV} {k : Nat} {z : γ} {l : List γ} {f : FuncId} {i j : Nat} {zs : List Value}
  (hD : DelContract P f k zs) (hk : ∀ x, (c x).length = k) (hz : c z = zs.map AV.at) (hz1 : ∀ v ∈ zs, v.oneCell' = true) (hij : i < j) (hj : j ≤ l.length) :
  FnMut K P f [.hs 0 0 l.length k, .at (.int .i64 i), .at (.int .i64 j)] [.own (l.flatMap c)] (.hs 0 0 (l.take i ++ l.drop j).length k) [.own ((l.take i ++ l.drop j).flatMap c)] := by
 intro out B w π vs hI ha
 obtain ⟨v, vs', rfl, hv, v2, vs2, rfl, h2, v3, vs3, rfl, h3, hnil⟩ := ha
 have hnil : vs3 = [] := hnil
 have h2 : v2 = .int .i64 i := h2
 have h3 : v3 = .int .i64 j := h3
 subst hnil; subst h2; subst h3
 rcases hv with ⟨hz0, _⟩ | ⟨p, a, cap, hp, rfl, hcap, hspot, hadr⟩
 · omega
 obtain ⟨rfl, hfit⟩ := hadr (by omega)
 generalize hcs : l.flatMap c = cs at *
 have hlen : cs.length = l.length * k := by rw [← hcs, flat_len hk]
 obtain ⟨⟨cells, ty, hb, hsz⟩, hC⟩ := hI.ok 0 _ p rfl hp
 obtain ⟨us, hus⟩ : ∃ us, us = (List.range (l.length * k)).map fun t => (w.cell? ⟨p.blk, p.off + 0 + t, none⟩).getD default := ⟨_, rfl⟩
 have hul : us.length = l.length * k := by rw [hus]; simp
 have hcell : ∀ t (ht : t < l.length * k), w.cell? ⟨p.blk, p.off + 0 + t, none⟩ = some (us[t]'(by omega)) ∧ (us[t]'(by omega)).oneCell' = true ∧ Rv w (muOf out π [.own cs]) π (cs[t]'(by omega)) (us[t]'(by omega)) := fun t ht => by
  obtain ⟨u, g1, g2, g3⟩ := RvC.get _ p.blk p.off t _ hC (List.getElem?_eq_getElem (show t < cs.length by omega))
  have e : us[t]'(by omega) = u := by
   subst hus
   simp only [List.getElem_map, List.getElem_range]
   rw [Nat.add_zero, g1]; rfl
  rw [e]
  exact ⟨by rw [Nat.add_zero]; exact g1, g2, g3⟩
 have hone : ∀ v ∈ us, v.oneCell' = true := fun v hv => by
  obtain ⟨t, ht, rfl⟩ := List.getElem_of_mem hv
  exact (hcell t (by omega)).2.1
 have hrv : ∀ t (h1 : t < cs.length) (h2 : t < us.length), Rv w (muOf out π [.own cs]) π cs[t] us[t] := fun t h1 h2 => (hcell t (by omega)).2.2
 have hjk : j * k ≤ l.length * k := Nat.mul_le_mul_right k hj
 have hik : i * k ≤ j * k := Nat.mul_le_mul_right k (Nat.le_of_lt hij)
 have hm1 : (l.length - j) * k = l.length * k - j * k := Nat.sub_mul _ _ _
 have hm2 : (i + (l.length - j)) * k = i * k + (l.length * k - j * k) := by rw [Nat.add_mul, hm1]
 have hm3 : (j - i) * k = j * k - i * k := Nat.sub_mul _ _ _
 have hfro : ∀ t, w.frozen? ⟨p.blk, t, none⟩ = false := fun t => by simp [World.frozen?, hb]
 refine (hD p.blk (p.off + 0) cap l.length i j w us hul (fun t v ht => by
  have h := getElem?_lt ht
  rw [List.getElem?_eq_getElem h] at ht; cases ht
  exact (hcell t (by omega)).1) (fun t _ => hfro _) hone hcap hij hj).mono ?_
 rintro e w' ⟨rfl, rfl⟩
 obtain ⟨hE0, hI0⟩ := hI.same (w' := w.drew) rfl rfl rfl rfl (fun _ => Nat.le_succ _)
 have hsome : ∀ t, t < l.length * k → (w.drew.cell? ⟨p.blk, p.off + t, none⟩).isSome = true := fun t ht => by
  have := (hcell t ht).1
  rw [Nat.add_zero] at this
  show (w.cell? _).isSome = true
  rw [this]; rfl
 have hd1 : (us.drop (j * k)).length = l.length * k - j * k := by rw [List.length_drop, hul]
 have hc1 : (cs.drop (j * k)).length = l.length * k - j * k := by rw [List.length_drop, hlen]
 obtain ⟨w1, r1, e1, i1⟩ := store_cells (P := P) hp (cs.drop (j * k)) (us.drop (j * k)) 0 (i * k) cs w.drew [.own cs] hI0 rfl
  (RvL.ext hE0 _ _ (rvL_ix _ _ (by rw [hd1, hc1]) fun t h1 h2 => by
   rw [List.getElem_drop, List.getElem_drop]; exact hrv _ _ _)) (fun v hv => hone v (List.mem_of_mem_drop hv)) (by rw [hc1, hlen]; omega)
 have q1 := run_storeCells_cells (P := P) p.blk (p.off + i * k) (us.drop (j * k)) 0 w.drew (fun t ht => by rw [Nat.add_zero, Nat.add_assoc]; exact hsome _ (by rw [hd1] at ht; omega)) (fun t _ => hfro _) (fun v hv => hone v (List.mem_of_mem_drop hv))
 rw [q1] at r1
 obtain rfl : w.drew.setCells p.blk (p.off + i * k + 0) (us.drop (j * k)) = w1 := by injection r1
 have hzl : zs.length = k := by have := congrArg List.length hz; rw [hk, List.length_map] at this; exact this.symm
 have hzf : ((List.replicate (j - i) zs).flatten).length = j * k - i * k := by rw [← hm3]; simp [hzl]
 have hz2 : ∀ v ∈ (List.replicate (j - i) zs).flatten, v.oneCell' = true := fun v hv => by
  obtain ⟨l', hl', hv⟩ := List.mem_flatten.1 hv
  rw [List.eq_of_mem_replicate hl'] at hv
  exact hz1 v hv
 have hset : ([.own cs] : List Blk).set 0 (.own (setCells cs (i * k + 0) (cs.drop (j * k)))) = [.own (setCells cs (i * k + 0) (cs.drop (j * k)))] := rfl
 rw [hset] at e1 i1
 have hsl : (setCells cs (i * k + 0) (cs.drop (j * k))).length = cs.length := by
  rw [setCells_eq _ _ _ (by rw [hc1, hlen]; omega), List.length_append, List.length_append, List.length_take, List.length_drop, List.length_drop]; omega
 obtain ⟨w2, r2, e2, i2⟩ := store_cells (P := P) hp (((List.replicate (j - i) zs).flatten).map AV.at) ((List.replicate (j - i) zs).flatten) 0 ((i + (l.length - j)) * k) _ _ _ i1 rfl (RvL_map_at _) hz2 (by rw [hsl, List.length_map, hzf, hlen, hm2]; omega)
 have q2 := run_storeCells_cells (P := P) p.blk (p.off + (i + (l.length - j)) * k) ((List.replicate (j - i) zs).flatten) 0 (w.drew.setCells p.blk (p.off + i * k + 0) (us.drop (j * k))) (fun t ht => by
  rw [hzf] at ht
  rw [Nat.add_zero, Nat.add_zero, Nat.add_assoc, hm2]
  exact some_setCells _ _ _ _ _ (hsome _ (by omega)) fun u hu => by rw [Nat.add_assoc]; exact hsome _ (by rw [hd1] at hu; omega)) (fun t _ => by rw [World.frozen?_setCells]; exact hfro _) hz2
 rw [q2] at r2
 obtain rfl : (w.drew.setCells p.blk (p.off + i * k + 0) (us.drop (j * k))).setCells p.blk (p.off + (i + (l.length - j)) * k + 0) ((List.replicate (j - i) zs).flatten) = w2 := by injection r2
 have hfin : setCells (setCells cs (i * k + 0) (cs.drop (j * k))) ((i + (l.length - j)) * k + 0) (((List.replicate (j - i) zs).flatten).map AV.at) = (l.take i ++ l.drop j ++ List.replicate (j - i) z).flatMap c := by
  rw [Nat.add_zero, Nat.add_zero, ← hcs, del_zero hz]
  exact del_cells hk hij hj
 have hset2 : ∀ x y : Blk, ([x] : List Blk).set 0 y = [y] := fun _ _ => rfl
 rw [hset2, hfin] at e2 i2
 have hE := (hE0.trans e1).trans e2
 have hlr : (l.take i ++ l.drop j).length = l.length - (j - i) := by simp; omega
 obtain ⟨π', hR, hmu, hpin⟩ := Wk.cut (K := K) 0 (s := [.hs 0 0 (l.length - (j - i)) k]) ((l.length - (j - i)) * k) (show ([.own ((l.take i ++ l.drop j ++ List.replicate (j - i) z).flatMap c)] : List Blk)[0]? = _ from rfl) out B _ π ⟨#[.slice (some ⟨p.blk, p.off + 0, none⟩) (l.length - (j - i)) cap], []⟩
  ⟨rfl, ⟨_, [], rfl, .inr ⟨p, _, cap, hp, rfl, by omega, hspot, fun h => ⟨rfl, hfit⟩⟩, rfl⟩, i2⟩
 obtain ⟨_, hsl2, hinv⟩ := hR
 have hcut : ((l.take i ++ l.drop j ++ List.replicate (j - i) z).flatMap c).take ((l.length - (j - i)) * k) = (l.take i ++ l.drop j).flatMap c := by
  rw [flat_take hk, List.take_left' hlr]
 have hst : ([.own ((l.take i ++ l.drop j ++ List.replicate (j - i) z).flatMap c)] : List Blk).set 0 (.own (((l.take i ++ l.drop j ++ List.replicate (j - i) z).flatMap c).take ((l.length - (j - i)) * k))) = [.own ((l.take i ++ l.drop j).flatMap c)] := by rw [hcut]; rfl
 simp only [hst] at hsl2 hinv hmu
 obtain ⟨u, us', e1', hu, _⟩ := hsl2
 have e2' : Value.slice (some ⟨p.blk, p.off + 0, none⟩) (l.length - (j - i)) cap = u := by
  have : [Value.slice (some ⟨p.blk, p.off + 0, none⟩) (l.length - (j - i)) cap] = u :: us' := e1'
  injection this
 subst e2'
 rw [← hlr] at hu
 have hE := (hE0.trans e1).trans e2
 exact ⟨_, π', by rw [hlr], hE.ek.trans (EK.less hmu hpin), hinv, hu⟩
theorem FnMut.delI {γ : Type} {c : γ → List AV} {k : Nat} (z : γ) {l : List γ} {f : FuncId} {i j : Int} {zs : List Value}
  (hD : DelContract P f k zs) (hk : ∀ x, (c x).length = k) (hz : c z = zs.map AV.at) (hz1 : ∀ v ∈ zs, v.oneCell' = true) (h : (decide (0 ≤ i) && decide (i < j) && decide (j ≤ (l.length : Int))) = true) :
  FnMut K P f [.hs 0 0 l.length k, .at (.int .i64 i), .at (.int .i64 j)] [.own (l.flatMap c)] (.hs 0 0 (l.take i.toNat ++ l.drop j.toNat).length k) [.own ((l.take i.toNat ++ l.drop j.toNat).flatMap c)] := by
 simp only [Bool.and_eq_true, decide_eq_true_eq] at h
 have := FnMut.del (K := K) (l := l) (i := i.toNat) (j := j.toNat) (z := z) hD hk hz hz1 (by omega) (by omega)
 rwa [Int.toNat_of_nonneg h.1.1, Int.toNat_of_nonneg (by omega)] at this
end
end Go.Eng

