import Derived.Test.YtlpfiiejhikalaaGreatTrkL11c
import Derived.Test.YtlpfiiejhikalaaGreatTrkL11e
import Derived.Test.YtlpfiiejhikalaaGreatTrkL11s
import Derived.Test.YtlpfiiejhikalaaGreatTrkL11w
set_option linter.all false
namespace Go.L
open Go Go.Eng
def xC (a0 a1 a2 : List ah) (i : Int) : List ah := if i = 0 then a0 else if i = 1 then a1 else a2
def V3 (a0 a1 a2 : List ah) (m : aa) : Prop := (0 <= m.Image /\ m.Image <= 2) /\ ∃ k : Nat, m.Feature = k /\ k < (xC a0 a1 a2 m.Image).length
def tE (a0 a1 a2 : List ah) (m : aa) : ah := gt (xC a0 a1 a2 m.Image) m.Feature
def D3 (a0 a1 a2 : List ah) : List aa := (([] ++ marksOf 0 a0.length) ++ marksOf 1 a1.length) ++ marksOf 2 a2.length
theorem jm {i : Int} {k : Nat} {m : aa} : m ∈ marksOf i k ↔ m.Image = i /\ ∃ j : Nat, m.Feature = j /\ j < k := by
 unfold marksOf
 simp only [List.mem_map, List.mem_range]
 constructor
 · rintro ⟨j, hj, rfl⟩; exact ⟨rfl, j, rfl, hj⟩
 · rintro ⟨h1, j, h2, h3⟩
   refine ⟨j, h3, ?_⟩
   cases m
   dsimp only at h1 h2
   rw [h1, h2]
theorem q8 (i : Int) (k : Nat) : (marksOf i k).Pairwise (fun a b => kM a < kM b) := by
 unfold marksOf
 rw [List.pairwise_map]
 exact List.pairwise_lt_range.imp fun {a b} h => by simp only [kM]; omega
section
variable {a0 a1 a2 : List ah}
theorem yR (m : aa) : m ∈ D3 a0 a1 a2 ↔ V3 a0 a1 a2 m := by
 unfold D3 V3 xC
 simp only [List.nil_append, List.mem_append, jm]
 constructor
 · rintro ((⟨h, k⟩ | ⟨h, k⟩) | ⟨h, k⟩)
   · rw [h]; exact ⟨by omega, by simpa using k⟩
   · rw [h]; exact ⟨by omega, by simpa using k⟩
   · rw [h]; exact ⟨by omega, by simpa using k⟩
 · rintro ⟨⟨h1, h2⟩, k⟩
   have : m.Image = 0 \/ m.Image = 1 \/ m.Image = 2 := by omega
   rcases this with h | h | h
   · rw [h] at k; exact .inl (.inl ⟨h, by simpa using k⟩)
   · rw [h] at k; exact .inl (.inr ⟨h, by simpa using k⟩)
   · rw [h] at k; exact .inr ⟨h, by simpa using k⟩
theorem CP (h0 : a0.length <= 81) (h1 : a1.length <= 81) : (D3 a0 a1 a2).Pairwise (fun a b => kM a < kM b) := by
 unfold D3
 rw [List.nil_append]
 refine List.pairwise_append.2 ⟨List.pairwise_append.2 ⟨q8 _ _, q8 _ _, fun x hx y hy => ?_⟩, q8 _ _, fun x hx y hy => ?_⟩
 · rw [jm] at hx hy
   obtain ⟨e, j, e2, hj⟩ := hx
   obtain ⟨f, j', f2, hj'⟩ := hy
   unfold kM; rw [e, e2, f, f2]; omega
 · rw [List.mem_append, jm, jm] at hx
   rw [jm] at hy
   obtain ⟨f, j', f2, hj'⟩ := hy
   rcases hx with ⟨e, j, e2, hj⟩ | ⟨e, j, e2, hj⟩
   · unfold kM; rw [e, e2, f, f2]; omega
   · unfold kM; rw [e, e2, f, f2]; omega
theorem BK (h0 : a0.length <= 64) (h1 : a1.length <= 64) (h2 : a2.length <= 64) : (D3 a0 a1 a2).length <= 192 := by simp [D3, marksOf]; omega
theorem zP (h0 : a0.length <= 64) (h1 : a1.length <= 64) (h2 : a2.length <= 64) (i : Int) : (xC a0 a1 a2 i).length <= 64 := by
 unfold xC
 split
 · exact h0
 · split
   · exact h1
   · exact h2
theorem Bd (h0 : a0.length <= 64) (h1 : a1.length <= 64) (h2 : a2.length <= 64)
  (i0 : ∀ k l : Nat, k < a0.length -> l < a0.length -> gt a0 (k : Int) = gt a0 (l : Int) -> k = l)
  (i1 : ∀ k l : Nat, k < a1.length -> l < a1.length -> gt a1 (k : Int) = gt a1 (l : Int) -> k = l)
  (i2 : ∀ k l : Nat, k < a2.length -> l < a2.length -> gt a2 (k : Int) = gt a2 (l : Int) -> k = l) : qx (V3 a0 a1 a2) (tE a0 a1 a2) := by
 refine ⟨?_, ?_⟩
 · rintro m ⟨h, k, e, hk⟩
   have := zP h0 h1 h2 m.Image
   exact ⟨by omega, by omega, by omega⟩
 · rintro m m' ⟨h, k, e, hk⟩ ⟨h', k', e', hk'⟩ hi hp
   unfold tE at hp
   rw [<- hi] at hp hk'
   have key : k = k' := by
    rw [e, e'] at hp
    revert hp hk hk'
    unfold xC
    split
    · exact fun a b c => i0 k k' a b c
    · split
      · exact fun a b c => i1 k k' a b c
      · exact fun a b c => i2 k k' a b c
   cases m
   cases m'
   dsimp only at *
   rw [hi, e, e', key]
end
def td (i j : Int) (y : aI) : ai := ⟨⟨i, y.First⟩, ⟨j, y.Second⟩, 0⟩
theorem vN {n : Nat} {i j : Int} {ms : List aI} {t0 : List ai} (hn : 100 < n) (hm : ms.length <= 64) (h0 : t0.length <= 1000)
  {f : (List ai × Int -> Option (List ai)) -> List ai × Int -> Option (List ai)}
  (hf : ∀ again t x, f again (t, x) = cdO (decide (x < (ms.length : Int))) (gdO (inR x ms.length) (cdO (((gt ms x).Distance : Int) == 0) (gdO (decide ((t.length + 1) * 40 <= 140737488355328)) (gdO (decide (t.length + 1 <= 4611686018427387904)) (again (t ++ [ai.mk (aa.mk i (gt ms x).First) (aa.mk j (gt ms x).Second) 0], Ew (x + 1))))) (again (t, Ew (x + 1))))) (some t)) :
  Ok (aP n f (t0, 0)) (fun t => t.length <= t0.length + ms.length /\ ∀ x, x ∈ t ↔ x ∈ t0 \/ ∃ y ∈ ms, y.Distance = 0 /\ x = td i j y) := by
 refine Ok.mono (Q := fun t => t.length <= t0.length + ms.length /\ ∀ x, x ∈ t ↔ x ∈ t0 \/ ∃ k : Nat, k < ms.length /\ (gt ms (k : Int)).Distance = 0 /\ x = td i j (gt ms (k : Int))) ?_ ?_
 · refine bI (fun s : List ai × Int => ∃ m : Nat, s.2 = m /\ m <= ms.length /\ s.1.length <= t0.length + m /\ ∀ x, x ∈ s.1 ↔ x ∈ t0 \/ ∃ k : Nat, k < m /\ (gt ms (k : Int)).Distance = 0 /\ x = td i j (gt ms (k : Int))) (fun s => ms.length - s.2.toNat) ?_ n (t0, 0) ⟨0, rfl, Nat.zero_le _, by simp, fun x => by simp⟩ (by first | omega | (dsimp only; omega))
   rintro again ⟨t, x⟩ ⟨m, rfl, hmm, hl, hI⟩ ih
   dsimp only at hmm hl hI ⊢
   rw [hf]
   refine Ok.cd (fun h => ?_) (fun h => ?_)
   · have hlt : m < ms.length := by have := dcT h; omega
     refine Ok.gd (by rw [aJ]; exact decide_eq_true hlt) ?_
     rw [eu (by omega)]
     refine Ok.cd (fun hz => ?_) (fun hz => ?_)
     · have hz : (gt ms (m : Int)).Distance = 0 := dcT hz
       refine Ok.gd (decide_eq_true (by omega)) (Ok.gd (decide_eq_true (by omega)) ?_)
       refine ih (_, ((m + 1 : Nat) : Int)) ⟨m + 1, rfl, by omega, by simp; omega, fun x => ?_⟩ (by first | omega | (dsimp only; omega))
       dsimp only
       rw [List.mem_append, hI, List.mem_singleton]
       constructor
       · rintro ((h | ⟨k, hk, h1, h2⟩) | h)
         · exact .inl h
         · exact .inr ⟨k, by omega, h1, h2⟩
         · exact .inr ⟨m, by omega, hz, h⟩
       · rintro (h | ⟨k, hk, h1, h2⟩)
         · exact .inl (.inl h)
         · rcases Nat.lt_succ_iff_lt_or_eq.1 hk with hk | rfl
           · exact .inl (.inr ⟨k, hk, h1, h2⟩)
           · exact .inr h2
     · have hz : ¬ (gt ms (m : Int)).Distance = 0 := dcF hz
       refine ih (_, ((m + 1 : Nat) : Int)) ⟨m + 1, rfl, by omega, by dsimp only; omega, fun x => ?_⟩ (by first | omega | (dsimp only; omega))
       dsimp only
       rw [hI]
       constructor
       · rintro (h | ⟨k, hk, h1, h2⟩)
         · exact .inl h
         · exact .inr ⟨k, by omega, h1, h2⟩
       · rintro (h | ⟨k, hk, h1, h2⟩)
         · exact .inl h
         · rcases Nat.lt_succ_iff_lt_or_eq.1 hk with hk | rfl
           · exact .inr ⟨k, hk, h1, h2⟩
           · exact (hz h1).elim
   · have : m = ms.length := by have := dcF h; omega
     subst this
     exact aw.2 ⟨hl, hI⟩
 · rintro t ⟨hl, hI⟩
   refine ⟨hl, fun x => (hI x).trans ?_⟩
   constructor
   · rintro (h | ⟨k, hk, h1, h2⟩)
     · exact .inl h
     · exact .inr ⟨gt ms (k : Int), by rw [mv hk]; exact List.getElem_mem hk, h1, h2⟩
   · rintro (h | ⟨y, hy, h1, h2⟩)
     · exact .inl h
     · obtain ⟨k, hk, rfl⟩ := List.getElem_of_mem hy
       exact .inr ⟨k, hk, by rw [mv hk]; exact h1, by rw [mv hk]; exact h2⟩
section
variable {r : ak} {w h : Nat} {p : List aj}
theorem tJ (hi : yF r w h p) {a b : List ah} {u v : List Int} (ha : rh r w h p a u) (hb : rh r w h p b v) {ms : List aI} (hm : nT u v ms) {i j : Int} {x : ai} :
  (∃ y ∈ ms, y.Distance = 0 /\ x = td i j y) ↔ ∃ k l : Nat, k < a.length /\ l < b.length /\ gt a (k : Int) = gt b (l : Int) /\ x = ⟨⟨i, k⟩, ⟨j, l⟩, 0⟩ := by
 have la := ha.len; have lb := hb.len
 constructor
 · rintro ⟨y, hy, hz, rfl⟩
   obtain ⟨k, l, hk, hl, e1, e2, e3⟩ := hm.2.1 y hy hz
   refine ⟨k, l, by omega, by omega, (s9 hi ha hb (by omega) (by omega)).1 e3, ?_⟩
   unfold td; rw [e1, e2]
 · rintro ⟨k, l, hk, hl, e, rfl⟩
   obtain ⟨m, hmm, e1, e2, e3⟩ := hm.2.2 k l (by omega) (by omega) ((s9 hi ha hb hk hl).2 e)
   exact ⟨m, hmm, e3, by unfold td; rw [e1, e2]⟩
end
theorem yO {α : Type} [DecidableEq α] : ∀ (l m : List α), l.Nodup -> (∀ x ∈ l, x ∈ m) -> l.length <= m.length
 | [], _, _, _ => Nat.zero_le _
 | a :: l, m, h1, h2 => by
  obtain ⟨h3, h4⟩ := List.nodup_cons.1 h1
  have hm := h2 a (by simp)
  have := yO l (m.erase a) h4 fun x hx => (List.mem_erase_of_ne (fun e => h3 (by rw [<- e]; exact hx))).2 (h2 x (by simp [hx]))
  rw [List.length_erase_of_mem hm] at this
  have hp : 0 < m.length := List.length_pos_of_mem hm
  rw [List.length_cons]; omega
theorem zl {pix : aa -> ah} {D : List aa} {s : List (ah × List aa)} (h : jt pix D s) : s.length <= D.length := by
 have := yO (s.map (·.1)) (D.map pix) (by rw [List.nodup_iff_pairwise_ne, List.pairwise_map]; exact h.keys) fun x hx => by
  obtain ⟨m, h1, h2⟩ := (h.has x).1 (iK.2 (List.mem_map.1 hx))
  exact List.mem_map.2 ⟨m, h1, h2⟩
 simpa using this
theorem sM {a c : Int} (ha : 0 <= a /\ a <= 255) (hc : 0 <= c /\ c <= 255) {w : Nat} (h1 : 1 <= w) (h9 : w <= 9) :
  ∃ x0 w2 : Nat, (Ew a).tmod (w : Int) = (x0 : Int) /\ (!decide (Ew ((w : Int) - (x0 : Int)) = 0)) = true /\ Ew (1 + (Ew c).tmod (Ew ((w : Int) - (x0 : Int)))) = (w2 : Int) /\ 1 <= w2 /\ x0 + w2 <= w := by
 have ea : Ew a = a := wrap64_in (by omega) (by omega)
 have ec : Ew c = c := wrap64_in (by omega) (by omega)
 rw [ea, ec]
 clear ea ec
 have hx := Int.tmod_eq_emod_of_nonneg (a := a) (b := (w : Int)) ha.1
 have hx0 := Int.emod_nonneg a (b := (w : Int)) (by omega)
 have hx1 := Int.emod_lt_of_pos a (b := (w : Int)) (by omega)
 obtain ⟨x0, hxx⟩ : ∃ x0 : Nat, a % (w : Int) = x0 := ⟨(a % (w : Int)).toNat, by omega⟩
 rw [hxx] at hx hx0 hx1
 clear hxx
 have e1 : Ew ((w : Int) - (x0 : Int)) = ((w - x0 : Nat) : Int) := by rw [wrap64_in (by omega) (by omega)]; omega
 refine ⟨x0, 1 + (c % ((w - x0 : Nat) : Int)).toNat, hx, ?_, ?_, by omega, ?_⟩
 · rw [e1]; simp; omega
 · rw [e1, Int.tmod_eq_emod_of_nonneg hc.1]
   clear e1 hx
   have h2 := Int.emod_nonneg c (b := ((w - x0 : Nat) : Int)) (by omega)
   have h3 := Int.emod_lt_of_pos c (b := ((w - x0 : Nat) : Int)) (by omega)
   generalize c % ((w - x0 : Nat) : Int) = q at *
   rw [wrap64_in (by omega) (by omega)]; omega
 · clear e1 hx
   have h2 := Int.emod_nonneg c (b := ((w - x0 : Nat) : Int)) (by omega)
   have h3 := Int.emod_lt_of_pos c (b := ((w - x0 : Nat) : Int)) (by omega)
   generalize c % ((w - x0 : Nat) : Int) = q at *
   omega
structure x7 (r : ak) (w h : Nat) (p : List aj) (a : List ah) (u : List Int) : Prop where
 ok : rh r w h p a u
 le : u.length <= 64
theorem zr {r : ak} {w h : Nat} {p : List aj} (hi : yF r w h p) {a0 a1 a2 : List ah} {u0 u1 u2 : List Int} (h0 : x7 r w h p a0 u0) (h1 : x7 r w h p a1 u1) (h2 : x7 r w h p a2 u2)
  {m01 m02 m12 : List aI} (k01 : nT u0 u1 m01) (k02 : nT u0 u2 m02) (k12 : nT u1 u2 m12) {t1 t2 t3 : List ai}
  (e1 : ∀ x, x ∈ t1 ↔ x ∈ ([] : List ai) \/ ∃ y ∈ m01, y.Distance = 0 /\ x = td 0 1 y) (e2 : ∀ x, x ∈ t2 ↔ x ∈ t1 \/ ∃ y ∈ m02, y.Distance = 0 /\ x = td 0 2 y) (e3 : ∀ x, x ∈ t3 ↔ x ∈ t2 \/ ∃ y ∈ m12, y.Distance = 0 /\ x = td 1 2 y) :
  (∀ t ∈ t3, sD (V3 a0 a1 a2) (tE a0 a1 a2) t) /\ ∀ m m', V3 a0 a1 a2 m -> V3 a0 a1 a2 m' -> m.Image < m'.Image -> tE a0 a1 a2 m = tE a0 a1 a2 m' -> ∃ t ∈ t3, t.A = m /\ t.B = m' := by
 have hmem : ∀ x, x ∈ t3 ↔ (∃ k l : Nat, k < a0.length /\ l < a1.length /\ gt a0 (k : Int) = gt a1 (l : Int) /\ x = ⟨⟨0, k⟩, ⟨1, l⟩, 0⟩) \/ (∃ k l : Nat, k < a0.length /\ l < a2.length /\ gt a0 (k : Int) = gt a2 (l : Int) /\ x = ⟨⟨0, k⟩, ⟨2, l⟩, 0⟩) \/ (∃ k l : Nat, k < a1.length /\ l < a2.length /\ gt a1 (k : Int) = gt a2 (l : Int) /\ x = ⟨⟨1, k⟩, ⟨2, l⟩, 0⟩) := fun x => by
  rw [e3, e2, e1, tJ hi h0.ok h1.ok k01, tJ hi h0.ok h2.ok k02, tJ hi h1.ok h2.ok k12]
  simp only [List.not_mem_nil, false_or, or_assoc]
 refine ⟨fun t ht => ?_, fun m m' hm hm' hlt hp => ?_⟩
 · rcases (hmem t).1 ht with ⟨k, l, hk, hl, e, rfl⟩ | ⟨k, l, hk, hl, e, rfl⟩ | ⟨k, l, hk, hl, e, rfl⟩
   · exact ⟨⟨by dsimp only; omega, k, rfl, hk⟩, ⟨by dsimp only; omega, l, rfl, hl⟩, by dsimp only; omega, e, rfl⟩
   · exact ⟨⟨by dsimp only; omega, k, rfl, hk⟩, ⟨by dsimp only; omega, l, rfl, hl⟩, by dsimp only; omega, e, rfl⟩
   · exact ⟨⟨by dsimp only; omega, k, rfl, hk⟩, ⟨by dsimp only; omega, l, rfl, hl⟩, by dsimp only; omega, e, rfl⟩
 · obtain ⟨i, f⟩ := m
   obtain ⟨i', f'⟩ := m'
   obtain ⟨hi1, k, hk, hkl⟩ := hm
   obtain ⟨hi2, l, hl, hll⟩ := hm'
   dsimp only at hi1 hi2 hk hl hlt hkl hll
   subst hk; subst hl
   have : (i = 0 /\ i' = 1) \/ (i = 0 /\ i' = 2) \/ (i = 1 /\ i' = 2) := by omega
   rcases this with ⟨rfl, rfl⟩ | ⟨rfl, rfl⟩ | ⟨rfl, rfl⟩
   · exact ⟨_, (hmem _).2 (.inl ⟨k, l, hkl, hll, hp, rfl⟩), rfl, rfl⟩
   · exact ⟨_, (hmem _).2 (.inr (.inl ⟨k, l, hkl, hll, hp, rfl⟩)), rfl, rfl⟩
   · exact ⟨_, (hmem _).2 (.inr (.inr ⟨k, l, hkl, hll, hp, rfl⟩)), rfl, rfl⟩
structure B2 (b : A3 (A4 Int)) : Prop where
 e0 : (0 <= b.e0.e0 /\ b.e0.e0 <= 255) /\ (0 <= b.e0.e1 /\ b.e0.e1 <= 255) /\ (0 <= b.e0.e2 /\ b.e0.e2 <= 255) /\ (0 <= b.e0.e3 /\ b.e0.e3 <= 255)
 e1 : (0 <= b.e1.e0 /\ b.e1.e0 <= 255) /\ (0 <= b.e1.e1 /\ b.e1.e1 <= 255) /\ (0 <= b.e1.e2 /\ b.e1.e2 <= 255) /\ (0 <= b.e1.e3 /\ b.e1.e3 <= 255)
 e2 : (0 <= b.e2.e0 /\ b.e2.e0 <= 255) /\ (0 <= b.e2.e1 /\ b.e2.e1 <= 255) /\ (0 <= b.e2.e2 /\ b.e2.e2 <= 255) /\ (0 <= b.e2.e3 /\ b.e2.e3 <= 255)
theorem Bx : dX 20000 = some true := by kernel_rfl
theorem vW {n : Nat} (hn : 5000 < n) (hv : dX n = some true) (r : ak) (p : List aj) (ws : A3 (A4 Int)) (hW : B2 ws) : c6 n r p ws = some true := by
 apply Ok.eq
 unfold c6
 refine Ok.bde hv (Ok.cd (fun h => by cases h) (fun _ => ?_))
 refine Ok.bd (Aq hn) fun c hc => ?_
 refine Ok.cd (fun _ => aw.2 rfl) (fun hz => Ok.cd (fun _ => aw.2 rfl) (fun h9 => ?_))
 have hz : c = 0 := by simpa using hz
 have h9 : mx r.Width r.Height <= 9 := by have := dcF h9; omega
 obtain ⟨w, h, hr⟩ := hc hz h9
 clear hc hz h9
 obtain ⟨pc, hpc, hP⟩ := CW (n := n) (p := p) (by omega)
 refine Ok.bde hpc (Ok.cd (fun _ => aw.2 rfl) (fun hz => ?_))
 have hz : pc = 0 := by simpa using hz
 subst hz
 have hPO := hP rfl
 clear hP
 refine Ok.bd (xe hr (by omega) hPO hpc) ?_
 rintro ⟨b, u, z⟩ ⟨rfl, hA⟩
 dsimp only at hA ⊢
 refine Ok.cd (fun h => by cases h) (fun _ => ?_)
 have hl : u.length <= 1000 := by
  have h1 := hA.le
  have h2 := hA.len
  have h3 := mS hr.h9 hr.w9
  omega
 refine Ok.bd (Bw hl (by omega)) fun bd hbd => ?_
 refine Ok.cd (fun _ => aw.2 rfl) (fun hb => ?_)
 have hb : bd = true := by simpa using hb
 have hinj := Bt hA (hbd hb)
 clear hbd hb hl
 have hw1 := hr.w1
 have hh1 := hr.h1
 rw [hr.wd, hr.ht]
 refine Ok.gd (by simp; omega) (Ok.gd (by simp; omega) ?_)
 obtain ⟨x0, wd0, ex0, gx0, ew0, p0, q0⟩ := sM hW.e0.1 hW.e0.2.2.1 hr.w1 hr.w9
 obtain ⟨y0, ht0, ey0, gy0, eh0, s0, t0⟩ := sM hW.e0.2.1 hW.e0.2.2.2 hr.h1 hr.h9
 rw [ex0, ey0]
 refine Ok.gd gx0 (Ok.gd gy0 ?_)
 rw [ew0, eh0]
 clear gx0 gy0 ew0 eh0 ex0 ey0
 refine Ok.bd (vY hr (by omega) p0 s0 q0 t0) ?_
 rintro ⟨c0, z0⟩ ⟨rfl, hc0⟩
 dsimp only at hc0 ⊢
 refine Ok.bd (xe hc0.ok (by omega) hPO hpc) ?_
 rintro ⟨b0, u0, z0⟩ ⟨rfl, hA0⟩
 dsimp only at hA0 ⊢
 refine Ok.cd (fun h => by cases h) (fun _ => Ok.cd (fun h => by cases h) (fun _ => Ok.cd (fun h => ?_) (fun _ => Ok.cd (fun _ => aw.2 rfl) (fun h64 => ?_))))
 · rw [hA0.len] at h; simp at h
 have l0 : u0.length <= 64 := by have := dcF h64; omega
 clear h64
 refine Ok.bd (tu hr hc0 hPO hA0 (by omega) (fun again l x => rfl)) ?_
 rintro a0 ⟨_, hw0⟩
 have W0 : x7 r w h p a0 u0 := ⟨hw0, l0⟩
 have n0 : a0.length <= 64 := by have := hw0.len; omega
 obtain ⟨x1, wd1, ex1, gx1, ew1, p1, q1⟩ := sM hW.e1.1 hW.e1.2.2.1 hr.w1 hr.w9
 obtain ⟨y1, ht1, ey1, gy1, eh1, s1, t1⟩ := sM hW.e1.2.1 hW.e1.2.2.2 hr.h1 hr.h9
 rw [ex1, ey1]
 refine Ok.gd gx1 (Ok.gd gy1 ?_)
 rw [ew1, eh1]
 clear gx1 gy1 ew1 eh1 ex1 ey1
 refine Ok.bd (vY hr (by omega) p1 s1 q1 t1) ?_
 rintro ⟨c1, z1⟩ ⟨rfl, hc1⟩
 dsimp only at hc1 ⊢
 refine Ok.bd (xe hc1.ok (by omega) hPO hpc) ?_
 rintro ⟨b1, u1, z1⟩ ⟨rfl, hA1⟩
 dsimp only at hA1 ⊢
 refine Ok.cd (fun h => by cases h) (fun _ => Ok.cd (fun h => by cases h) (fun _ => Ok.cd (fun h => ?_) (fun _ => Ok.cd (fun _ => aw.2 rfl) (fun h64 => ?_))))
 · rw [hA1.len] at h; simp at h
 have l1 : u1.length <= 64 := by have := dcF h64; omega
 clear h64
 refine Ok.bd (tu hr hc1 hPO hA1 (by omega) (fun again l x => rfl)) ?_
 rintro a1 ⟨_, hw1⟩
 have W1 : x7 r w h p a1 u1 := ⟨hw1, l1⟩
 have n1 : a1.length <= 64 := by have := hw1.len; omega
 obtain ⟨x2, wd2, ex2, gx2, ew2, p2, q2⟩ := sM hW.e2.1 hW.e2.2.2.1 hr.w1 hr.w9
 obtain ⟨y2, ht2, ey2, gy2, eh2, s2, t2⟩ := sM hW.e2.2.1 hW.e2.2.2.2 hr.h1 hr.h9
 rw [ex2, ey2]
 refine Ok.gd gx2 (Ok.gd gy2 ?_)
 rw [ew2, eh2]
 clear gx2 gy2 ew2 eh2 ex2 ey2
 refine Ok.bd (vY hr (by omega) p2 s2 q2 t2) ?_
 rintro ⟨c2, z2⟩ ⟨rfl, hc2⟩
 dsimp only at hc2 ⊢
 refine Ok.bd (xe hc2.ok (by omega) hPO hpc) ?_
 rintro ⟨b2, u2, z2⟩ ⟨rfl, hA2⟩
 dsimp only at hA2 ⊢
 refine Ok.cd (fun h => by cases h) (fun _ => Ok.cd (fun h => by cases h) (fun _ => Ok.cd (fun h => ?_) (fun _ => Ok.cd (fun _ => aw.2 rfl) (fun h64 => ?_))))
 · rw [hA2.len] at h; simp at h
 have l2 : u2.length <= 64 := by have := dcF h64; omega
 clear h64
 refine Ok.bd (tu hr hc2 hPO hA2 (by omega) (fun again l x => rfl)) ?_
 rintro a2 ⟨_, hw2⟩
 have W2 : x7 r w h p a2 u2 := ⟨hw2, l2⟩
 have n2 : a2.length <= 64 := by have := hw2.len; omega
 refine Ok.bd (pq (by omega) l0 l1 hw0.rg hw1.rg (kW hinj hw0) (kW hinj hw1)) ?_
 rintro ⟨m01, z⟩ ⟨rfl, k01⟩
 dsimp only at k01 ⊢
 refine Ok.cd (fun h => by cases h) (fun _ => ?_)
 have len01 : m01.length <= 64 := Nat.le_trans k01.1 l0
 refine Ok.bd (vN (i := 0) (j := 1) (by omega) len01 (by simp) (fun again t x => rfl)) ?_
 rintro t1 ⟨c1, d1⟩
 refine Ok.bd (pq (by omega) l0 l2 hw0.rg hw2.rg (kW hinj hw0) (kW hinj hw2)) ?_
 rintro ⟨m02, z⟩ ⟨rfl, k02⟩
 dsimp only at k02 ⊢
 refine Ok.cd (fun h => by cases h) (fun _ => ?_)
 have len02 : m02.length <= 64 := Nat.le_trans k02.1 l0
 refine Ok.bd (vN (i := 0) (j := 2) (by omega) len02 (by simp only [List.length_nil] at c1; omega) (fun again t x => rfl)) ?_
 rintro t2 ⟨c2, d2⟩
 refine Ok.bd (pq (by omega) l1 l2 hw1.rg hw2.rg (kW hinj hw1) (kW hinj hw2)) ?_
 rintro ⟨m12, z⟩ ⟨rfl, k12⟩
 dsimp only at k12 ⊢
 refine Ok.cd (fun h => by cases h) (fun _ => ?_)
 have len12 : m12.length <= 64 := Nat.le_trans k12.1 l1
 refine Ok.bd (vN (i := 1) (j := 2) (by omega) len12 (by simp only [List.length_nil] at c1; omega) (fun again t x => rfl)) ?_
 rintro t3 ⟨c3, d3⟩
 have hlen : t3.length <= 256 := by simp only [List.length_nil] at c1; omega
 obtain ⟨hgood, hall⟩ := zr hinj W0 W1 W2 k01 k02 k12 d1 d2 d3
 have h3 := Bd n0 n1 n2 hw0.inj hw1.inj hw2.inj
 obtain ⟨hch, hrf⟩ := uZ h3 (n := n) (by omega) hlen hgood hall
 clear hgood hall d1 d2 d3 k01 k02 k12
 refine Ok.bd hch ?_
 rintro ⟨ts, z⟩ ⟨rfl, hC⟩
 dsimp only at hC ⊢
 refine Ok.bd hrf ?_
 rintro ⟨rf, z⟩ ⟨rfl, hrl⟩
 dsimp only at hrl ⊢
 clear hch hrf
 refine Ok.cd (fun h => by cases h) (fun _ => Ok.cd (fun h => by cases h) (fun _ => Ok.cd (fun h => ?_) (fun _ => ?_)))
 · rw [hrl] at h; cases h
 refine Ok.bd (wj (i := 0) (pix := tE a0 a1 a2) (fun k hk => rfl) (by omega) n0 (by simp) (jt.nil _) (fun again s x => rfl)) fun s0 hs0 => ?_
 refine Ok.bd (wj (i := 1) (pix := tE a0 a1 a2) (fun k hk => rfl) (by omega) n1 (by simp [marksOf]; omega) hs0 (fun again s x => rfl)) fun s1 hs1 => ?_
 refine Ok.bd (wj (i := 2) (pix := tE a0 a1 a2) (fun k hk => rfl) (by omega) n2 (by simp [marksOf]; omega) hs1 (fun again s x => rfl)) fun sn hsn => ?_
 clear hs0 hs1 s0 s1
 have hsn : jt (tE a0 a1 a2) (D3 a0 a1 a2) sn := hsn
 have hls := zl hsn
 have hld := BK n0 n1 n2
 have hDp := CP (a0 := a0) (a1 := a1) (a2 := a2) (by omega) (by omega)
 refine ⟨true, zN fun q hq => ?_, rfl⟩
 apply Ok.eq
 have hql := hq.length_eq
 refine Ok.bde (ze (fun w e => rfl) q [] (by simp only [List.length_nil]; omega)) ?_
 rw [List.nil_append]
 obtain ⟨hwl, hwm⟩ := uU hDp yR hC hsn hq
 have hwq : (iy q).length <= 192 := by
  unfold iy
  rw [List.length_map]
  exact Nat.le_trans (List.length_filter_le _ _) (by omega)
 generalize iy q = L at *
 have htm : ∀ t ∈ ts, t.length < n /\ t.length <= 1000 := fun t ht => by
  have h1 : t.Nodup := by
   rw [List.nodup_iff_pairwise_ne]
   exact (hC.srt t ht).imp fun h e => by subst e; omega
  have h2 := yO t (D3 a0 a1 a2) h1 fun m hm => by
   obtain ⟨m', hV, _⟩ := hC.val t ht m hm
   exact (yR m).2 hV
  omega
 refine Ok.cd (fun h => ?_) (fun _ => ?_)
 · rw [hwl] at h; simp at h
 refine Ok.bd (R := fun o => o = Sum.inl ()) ?_ (by rintro o rfl; exact aw.2 rfl)
 refine rB (len := L.length) (fun _ => True) (by omega) (by omega) trivial ?_ ?_
 · intro again k hk _ ih
   refine Ok.cd (fun _ => ?_) (fun h => by have := dcF h; omega)
   refine Ok.gd (by rw [aJ]; exact decide_eq_true hk) ?_
   refine Ok.bd (xx (l := gt L (k : Int)) (by omega) (by omega) htm) fun b hb => ?_
   have hb := hb (hwm _ (by rw [mv hk]; exact List.getElem_mem hk))
   subst hb
   exact Ok.cd (fun h => by cases h) (fun _ => ih trivial)
 · intro again _
   exact Ok.cd (fun h => by have := dcT h; omega) (fun _ => aw.2 rfl)
theorem vH (r : ak) (p : List aj) (ws : A3 (A4 Int)) (hW : B2 ws) : c6 20000 r p ws = some true := vW (by omega) Bx r p ws hW
theorem ia {a : Int} (h : (Lit.int .u8 a).wf = true) : 0 <= a /\ a <= 255 := by
 simp [Lit.wf, IntKind.min, IntKind.max, IntKind.signed, IntKind.bits] at h
 exact h
theorem Av {b : A3 (A4 Int)} (h : (((Lit.int .u8 b.e0.e0).wf = true) /\ ((Lit.int .u8 b.e0.e1).wf = true) /\ ((Lit.int .u8 b.e0.e2).wf = true) /\ ((Lit.int .u8 b.e0.e3).wf = true) /\ True) /\ (((Lit.int .u8 b.e1.e0).wf = true) /\ ((Lit.int .u8 b.e1.e1).wf = true) /\ ((Lit.int .u8 b.e1.e2).wf = true) /\ ((Lit.int .u8 b.e1.e3).wf = true) /\ True) /\ (((Lit.int .u8 b.e2.e0).wf = true) /\ ((Lit.int .u8 b.e2.e1).wf = true) /\ ((Lit.int .u8 b.e2.e2).wf = true) /\ ((Lit.int .u8 b.e2.e3).wf = true) /\ True) /\ True) : B2 b :=
 ⟨⟨ia h.1.1, ia h.1.2.1, ia h.1.2.2.1, ia h.1.2.2.2.1⟩, ⟨ia h.2.1.1, ia h.2.1.2.1, ia h.2.1.2.2.1, ia h.2.1.2.2.2.1⟩, ⟨ia h.2.2.1.1, ia h.2.2.1.2.1, ia h.2.2.1.2.2.1, ia h.2.2.1.2.2.2.1⟩⟩
end Go.L

