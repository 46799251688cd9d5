import Derived.Test.YtlpfiiejhikalaaGreatTrkL11a
import Derived.Test.YtlpfiiejhikalaaGreatTrkL11p
import Derived.KernelRfl
import Derived.Test.YtlpfiiejhikalaaGreatTrkL11c
set_option linter.all false
namespace Go.L
open Go Go.Eng
section
variable {n : Nat} {d : List Int} {a b : Nat}
theorem wv {x y s lo hi : Int} (h0 : 0 <= lo) (hh : hi <= d.length) (hx : lo <= x /\ x < hi) (hy : lo <= y /\ y < hi) : Ok (bH n d x y s) (fun r => (lo <= r.2.1 /\ r.2.1 < hi) /\ lo <= r.2.2 /\ r.2.2 < hi) := by
 unfold bH
 refine Ok.gd (by rw [inR]; simp; omega) (Ok.gd (by rw [inR]; simp; omega) ?_)
 refine Ok.bde (gO n _ _) ?_
 exact Ok.cd (fun _ => aw.2 ⟨hy, hx⟩) (fun _ => aw.2 ⟨hx, hy⟩)
theorem yJ {x y z s lo hi : Int} (h0 : 0 <= lo) (hh : hi <= d.length) (hx : lo <= x /\ x < hi) (hy : lo <= y /\ y < hi) (hz : lo <= z /\ z < hi) : Ok (bX n d x y z s) (fun r => lo <= r.2 /\ r.2 < hi) := by
 unfold bX
 refine Ok.bd (wv h0 hh hx hy) fun r1 h1 => ?_
 refine Ok.bd (wv h0 hh h1.2 hz) fun r2 h2 => ?_
 refine Ok.bd (wv h0 hh h1.1 h2.1) fun r3 h3 => ?_
 exact aw.2 h3.2
theorem we {x : Nat} {s : Int} (hx : a + 1 <= x) (hx2 : x + 1 < b) (hb : b <= d.length) (hl : d.length <= 1000) : Ok (bg n d x s) (fun r => (a : Int) <= r.2 /\ r.2 < (b : Int)) := by
 unfold bg
 rw [eu (by omega), ju (by omega) (by omega)]
 refine Ok.bd (yJ (lo := a) (hi := b) (by omega) (by omega) (by omega) (by omega) (by omega)) fun r h => aw.2 h
theorem zX (hab : a + 8 <= b) (hb : b <= d.length) (hl : d.length <= 1000) : Ok (b9 n d a b) (fun r => ∃ p : Nat, r.1 = p /\ a <= p /\ p < b) := by
 unfold b9
 have e1 : Ew ((b : Int) - (a : Int)) = ((b - a : Nat) : Int) := by rw [wrap64_in (by omega) (by omega)]; omega
 have e2 : Ew (((b - a : Nat) : Int).tdiv 4) = (((b - a) / 4 : Nat) : Int) := by
  rw [Int.tdiv_eq_ediv_of_nonneg (by omega), wrap64_in (by omega) (by omega)]; omega
 rw [e1, e2]
 clear e1 e2
 obtain ⟨q, hq⟩ : ∃ q, (b - a) / 4 = q := ⟨_, rfl⟩
 have hq1 : 2 <= q := by omega
 have hq2 : a + 4 * q <= b := by omega
 have hq3 : q <= 250 := by omega
 rw [hq]
 have f1 : Ew ((a : Int) + Ew ((q : Int) * 1)) = ((a + q : Nat) : Int) := by rw [wrap64_in (n := (q : Int) * 1) (by omega) (by omega), wrap64_in (by omega) (by omega)]; omega
 have f2 : Ew ((a : Int) + Ew ((q : Int) * 2)) = ((a + q * 2 : Nat) : Int) := by rw [wrap64_in (n := (q : Int) * 2) (by omega) (by omega), wrap64_in (by omega) (by omega)]; omega
 have f3 : Ew ((a : Int) + Ew ((q : Int) * 3)) = ((a + q * 3 : Nat) : Int) := by rw [wrap64_in (n := (q : Int) * 3) (by omega) (by omega), wrap64_in (by omega) (by omega)]; omega
 rw [f1, f2, f3]
 clear f1 f2 f3
 refine Ok.bd (R := fun r : Int × Int => (a : Int) <= r.2 /\ r.2 < (b : Int)) ?_ ?_
 · refine Ok.cd (fun _ => ?_) (fun _ => aw.2 (by dsimp only; omega))
   refine Ok.bd (R := fun r : Int × Int × Int × Int => ((a : Int) <= r.2.1 /\ r.2.1 < (b : Int)) /\ ((a : Int) <= r.2.2.1 /\ r.2.2.1 < (b : Int)) /\ (a : Int) <= r.2.2.2 /\ r.2.2.2 < (b : Int)) ?_ ?_
   · refine Ok.cd (fun _ => ?_) (fun _ => aw.2 (by dsimp only; omega))
     refine Ok.bd (we (a := a) (b := b) (by omega) (by omega) hb hl) fun r1 h1 => ?_
     refine Ok.bd (we (a := a) (b := b) (by omega) (by omega) hb hl) fun r2 h2 => ?_
     refine Ok.bd (we (a := a) (b := b) (by omega) (by omega) hb hl) fun r3 h3 => ?_
     exact aw.2 ⟨h1, h2, h3⟩
   · rintro ⟨s, x, y, z⟩ ⟨h1, h2, h3⟩
     dsimp only at h1 h2 h3 ⊢
     refine Ok.bd (yJ (lo := a) (hi := b) (by omega) (by omega) h1 h2 h3) fun r h => aw.2 h
 · rintro ⟨s, x⟩ ⟨h1, h2⟩
   dsimp only at h1 h2 ⊢
   have hx : ∃ p : Nat, x = p /\ a <= p /\ p < b := ⟨x.toNat, by omega, by omega, by omega⟩
   exact Ok.cd (fun _ => aw.2 hx) (fun _ => Ok.cd (fun _ => aw.2 hx) (fun _ => aw.2 hx))
theorem zk {D : List Int} {i j : Nat} (hi : a <= i /\ i < b) (hj : a <= j /\ j < b) (hb : b <= D.length) (hp : Sort.PermIn a b d.toArray D.toArray) : Sort.PermIn a b d.toArray ((D.set i (gt D (j : Int))).set j (gt D (i : Int))).toArray := by
 rw [ie]
 exact Sort.permIn_trans _ _ _ a b hp (Sort.swp_permIn _ a b i j hi.1 hi.2 hj.1 hj.2 (by simpa using hb))
theorem BP (hab : a < b) (hb : b <= d.length) (hl : d.length <= 1000) (hn : 2000 < n) : Ok (bR n d a b) (fun r => r.length = d.length /\ Sort.PermIn a b d.toArray r.toArray) := by
 unfold bR
 refine Ok.bd (R := fun r => r.length = d.length /\ Sort.PermIn a b d.toArray r.toArray) ?_ (fun r h => aw.2 h)
 refine bI (fun s : List Int × Int × Int => ∃ i j : Nat, s.2.1 = i /\ s.2.2 = j /\ a <= i /\ j < b /\ s.1.length = d.length /\ Sort.PermIn a b d.toArray s.1.toArray) (fun s => s.2.2.toNat) ?_ n (d, _, _) ⟨a, b - 1, rfl, by dsimp only; rw [ju (by omega) (by omega)], by omega, by omega, rfl, Sort.permIn_refl _ a b⟩ (by dsimp only; rw [ju (by omega) (by omega)]; omega)
 rintro again ⟨d1, x, y⟩ ⟨i, j, hx, hy, hi, hj, hd1, hp⟩ ih
 dsimp only at hx hy hd1 hp ⊢
 subst hx; subst hy
 refine Ok.cd (fun h => ?_) (fun h => aw.2 ⟨hd1, hp⟩)
 have h := dcT h
 have h : i < j := by omega
 refine Ok.gd (by rw [aJ]; exact decide_eq_true (by omega)) (Ok.gd (by rw [aJ]; exact decide_eq_true (by omega)) ?_)
 rw [eu (by omega), ju (by omega) (by omega)]
 simp only [Int.toNat_natCast]
 exact ih (_, ((i + 1 : Nat) : Int), ((j - 1 : Nat) : Int)) ⟨i + 1, j - 1, rfl, rfl, by omega, by omega, by simp [hd1], zk (by omega) (by omega) (by omega) hp⟩ (by first | omega | (dsimp only; omega))
theorem yW : (List.range 1001).all (fun L => decide (L < 8) || (match cp 0 (L : Int) with | some v => decide (1 <= v) && decide (v <= 2 * (L : Int)) | none => false)) = true := by kernel_rfl
theorem BR {L : Nat} (h1 : 8 <= L) (h2 : L <= 1000) : ∃ v : Nat, cp n (L : Int) = some (v : Int) /\ 1 <= v /\ v <= 2 * L := by
 have h := List.all_eq_true.1 yW L (List.mem_range.2 (by omega))
 rw [show cp n (L : Int) = cp 0 (L : Int) by rfl]
 rw [decide_eq_false (show ¬ L < 8 by omega), Bool.false_or] at h
 cases hv : cp 0 (L : Int) with
 | none => rw [hv] at h; cases h
 | some v =>
  rw [hv] at h
  simp only [Bool.and_eq_true, decide_eq_true_eq] at h
  exact ⟨v.toNat, by congr 1; omega, by omega, by omega⟩
theorem BA {x : Int} {m : Nat} (hm : m <= 100000) : ∃ k : Nat, b7 .and .u64 x (m : Int) = k /\ k <= m := by
 refine ⟨(BitVec.ofInt 64 x &&& BitVec.ofInt 64 (m : Int)).toNat, ?_, ?_⟩
 · show IntKind.u64.wrap ((((BitVec.ofInt 64 x &&& BitVec.ofInt 64 (m : Int)).toNat : Nat) : Int)) = _
   have h := (BitVec.ofInt 64 x &&& BitVec.ofInt 64 (m : Int)).isLt
   rw [<- fh, dJ (by omega) (by omega)]
 rw [BitVec.toNat_and]
 refine Nat.le_trans Nat.and_le_right ?_
 rw [BitVec.toNat_ofInt]
 omega
theorem BI (hab : a <= b) (hb : b <= d.length) (hl : d.length <= 1000) (hn : 2000 < n) : Ok (bN n d a b) (fun r => r.length = d.length /\ Sort.PermIn a b d.toArray r.toArray) := by
 unfold bN
 have e1 : Ew ((b : Int) - (a : Int)) = ((b - a : Nat) : Int) := by rw [wrap64_in (by omega) (by omega)]; omega
 have e2 : Ew (((b - a : Nat) : Int).tdiv 4) = (((b - a) / 4 : Nat) : Int) := by
  rw [Int.tdiv_eq_ediv_of_nonneg (by omega), wrap64_in (by omega) (by omega)]; omega
 rw [e1, e2]
 clear e1 e2
 refine Ok.cd (fun h8 => ?_) (fun _ => aw.2 ⟨rfl, Sort.permIn_refl _ a b⟩)
 have h8 := dcT h8
 obtain ⟨L, hL⟩ : ∃ L, b - a = L := ⟨_, rfl⟩
 rw [hL] at h8 ⊢
 have h8 : 8 <= L := by omega
 obtain ⟨q, hq⟩ : ∃ q, L / 4 = q := ⟨_, rfl⟩
 have hq1 : 2 <= q := by omega
 have hq2 : 4 * q <= L := by omega
 rw [hq]
 clear hq
 have f2 : Ew ((a : Int) + Ew ((q : Int) * 2)) = ((a + q * 2 : Nat) : Int) := by rw [wrap64_in (n := (q : Int) * 2) (by omega) (by omega), wrap64_in (by omega) (by omega)]; omega
 rw [f2, ju (by omega) (by omega), eu (by omega)]
 clear f2
 obtain ⟨v, hv, hv1, hv2⟩ := BR (n := n) (L := L) (by omega) (by omega)
 refine Ok.bde hv ?_
 have e3 : ae .u64 ((v : Int) - 1) = ((v - 1 : Nat) : Int) := by rw [dJ (by omega) (by omega)]; omega
 rw [e3]
 clear e3 hv
 refine Ok.bd (R := fun r => r.length = d.length /\ Sort.PermIn a b d.toArray r.toArray) ?_ (fun r h => aw.2 h)
 refine bI (fun s : List Int × Int × Int => ∃ i : Nat, s.2.2 = i /\ a <= i /\ i <= a + q * 2 + 2 /\ s.1.length = d.length /\ Sort.PermIn a b d.toArray s.1.toArray) (fun s => 1002 - s.2.2.toNat) ?_ n (d, _, _) ⟨a + q * 2 - 1, rfl, by omega, by omega, rfl, Sort.permIn_refl _ a b⟩ (by dsimp only; omega)
 rintro again ⟨d1, x, y⟩ ⟨i, hy, hi, hi2, hd1, hp⟩ ih
 dsimp only at hy hd1 hp ⊢
 subst hy
 refine Ok.cd (fun h => ?_) (fun h => aw.2 ⟨hd1, hp⟩)
 have h := dcT h
 have h : i <= a + q * 2 + 1 := by omega
 unfold ev
 refine Ok.bde rfl ?_
 dsimp only
 generalize b7 .xor .u64 _ _ = w
 obtain ⟨k, hk, hkv⟩ := BA (x := w) (m := v - 1) (by omega)
 rw [hk]
 clear hk
 have e4 : Ew (k : Int) = (k : Int) := wrap64_in (by omega) (by omega)
 have e5 : Ew ((k : Int) - (L : Int)) = (k : Int) - (L : Int) := wrap64_in (by omega) (by omega)
 rw [e4, e5]
 clear e4 e5
 refine Ok.bd (R := fun o : Int => ∃ o' : Nat, o = o' /\ o' < L) ?_ ?_
 · refine Ok.cd (fun hc => ?_) (fun hc => ?_)
   · have hc := dcT hc
     exact aw.2 ⟨k - L, by omega, by omega⟩
   · have hc := dcF hc
     exact aw.2 ⟨k, rfl, by omega⟩
 · rintro o ⟨o', rfl, ho⟩
   have e6 : Ew ((a : Int) + (o' : Int)) = ((a + o' : Nat) : Int) := by rw [wrap64_in (by omega) (by omega)]; omega
   rw [e6, eu (by omega)]
   clear e6
   refine Ok.gd (by rw [aJ]; exact decide_eq_true (by omega)) (Ok.gd (by rw [aJ]; exact decide_eq_true (by omega)) ?_)
   simp only [Int.toNat_natCast]
   exact ih (_, w, ((i + 1 : Nat) : Int)) ⟨i + 1, rfl, by omega, by omega, by simp [hd1], zk (by omega) (by omega) (by omega) hp⟩ (by first | omega | (dsimp only; omega))
end
end Go.L


set_option linter.all false
namespace Go.L
open Go Go.Eng
def vU (d : List Int) (a b : Nat) (r : List Int) : Prop := r.length = d.length /\ Sort.PermIn a b d.toArray r.toArray /\ Sort.SortedIn ltI a b r.toArray
theorem yH : Sort.SWO ltI := Sort.swo_ltInt
theorem q7 {d r : List Int} {a b : Nat} (h : Sort.PermIn a b d.toArray r.toArray /\ Sort.SortedIn ltI a b r.toArray) : vU d a b r := ⟨by simpa using h.1.1, h⟩
section
variable {n : Nat}
theorem yo {rc : List Int -> Int -> Int -> Int -> Option (List Int)} {S : Nat}
  (hrc : 12 < S -> ∀ (d : List Int) (a b : Nat) (limit : Int), a <= b -> b <= d.length -> d.length <= 1000 -> 2 * (b - a) < S -> 0 <= limit -> limit <= 64 -> Sort.Below ltI a b d.toArray -> Ok (rc d a b limit) (vU d a b))
  {d : List Int} {a b : Nat} {limit : Int} (hab : a <= b) (hb : b <= d.length) (hl : d.length <= 1000) (hS : b - a < S) (hl0 : 0 <= limit) (hl1 : limit <= 64) (hB : Sort.Below ltI a b d.toArray) (hn : 2000 < n) :
  Ok (b8 rc n d a b limit) (vU d a b) := by
 unfold b8
 refine Ok.bd (R := vU d a b) ?_ (fun r h => aw.2 h)
 refine bI (fun s : List Int × Int × Int × Int × Bool × Bool => ∃ a1 b1 : Nat, s.2.1 = a1 /\ s.2.2.1 = b1 /\ a1 <= b1 /\ b1 <= d.length /\ s.1.length = d.length /\ b1 - a1 < S /\ 0 <= s.2.2.2.1 /\ s.2.2.2.1 <= 64 /\ Sort.Below ltI a1 b1 s.1.toArray /\ ∀ R, Sort.PermIn a1 b1 s.1.toArray R -> Sort.SortedIn ltI a1 b1 R -> Sort.PermIn a b d.toArray R /\ Sort.SortedIn ltI a b R) (fun s => (s.2.2.1 - s.2.1).toNat) ?_ n (d, _, _, _, _, _) ⟨a, b, rfl, rfl, hab, hb, rfl, hS, hl0, hl1, hB, fun R h1 h2 => ⟨h1, h2⟩⟩ (by first | omega | (dsimp only; omega))
 clear hab hb hS hl0 hl1 hB
 rintro again ⟨d1, x, y, limit, wb, wp⟩ ⟨a1, b1, hx, hy, hab, hb, hd1, hS, hl0, hl1, hB, hK⟩ ih
 dsimp only at hx hy hd1 hl0 hl1 hB hK ih ⊢
 subst hx; subst hy
 have hb1 : b1 <= d1.length := by omega
 have hl2 : d1.length <= 1000 := by omega
 have e1 : Ew ((b1 : Int) - (a1 : Int)) = ((b1 - a1 : Nat) : Int) := by rw [wrap64_in (by omega) (by omega)]; omega
 rw [e1]
 clear e1
 refine Ok.cd (fun h12 => ?_) (fun h12 => ?_)
 · refine Ok.bd (CI hab hb1 hl2 hn) fun r hr => ?_
   have hh := Sort.insertionSort_holds (lt := ltI) yH d1.toArray a1 b1 hab (by simpa using hb1)
   rw [<- hr] at hh
   exact Ok.gd (decide_eq_true (by simpa using hh.1.1)) (aw.2 (q7 (hK _ hh.1 hh.2)))
 · have h12 := dcF h12
   have h12 : 12 < b1 - a1 := by omega
   refine Ok.cd (fun hz => ?_) (fun hz => ?_)
   · refine Ok.bd (BU (by omega) hb1 hl2 hn) fun r hr => ?_
     have hh := Sort.heapSort_holds (lt := ltI) yH d1.toArray a1 b1 hab (by simpa using hb1)
     rw [<- hr.2] at hh
     exact Ok.gd (decide_eq_true hr.1) (aw.2 (q7 (hK _ hh.1 hh.2)))
   · have hz : limit ≠ 0 := by simpa using hz
     refine Ok.bd (R := fun r : List Int × Int => r.1.length = d1.length /\ Sort.PermIn a1 b1 d1.toArray r.1.toArray /\ 0 <= r.2 /\ r.2 <= 64) ?_ ?_
     · refine Ok.cd (fun _ => ?_) (fun _ => aw.2 ⟨rfl, Sort.permIn_refl _ _ _, hl0, hl1⟩)
       refine Ok.bd (BI hab hb1 hl2 hn) fun r hr => ?_
       refine Ok.gd (decide_eq_true hr.1) (aw.2 ⟨hr.1, hr.2, ?_⟩)
       dsimp only
       rw [wrap64_in (by omega) (by omega)]; omega
     rintro ⟨d2, lim⟩ ⟨hd2, hp2, hl3, hl4⟩
     dsimp only at hd2 hp2 hl3 hl4 ⊢
     refine Ok.bd (zX (a := a1) (b := b1) (by omega) (by omega) (by omega)) ?_
     rintro ⟨p, hint⟩ ⟨p', hp, hp0, hp1⟩
     dsimp only at hp ⊢
     subst hp
     refine Ok.bd (R := fun r : List Int × Int × Int => r.1.length = d1.length /\ Sort.PermIn a1 b1 d1.toArray r.1.toArray /\ ∃ q : Nat, r.2.1 = q /\ a1 <= q /\ q < b1) ?_ ?_
     · refine Ok.cd (fun _ => ?_) (fun _ => aw.2 ⟨hd2, hp2, p', rfl, hp0, hp1⟩)
       refine Ok.bd (BP (by omega) (by omega) (by omega) hn) fun r hr => ?_
       refine Ok.gd (decide_eq_true hr.1) (aw.2 ⟨by rw [hr.1]; exact hd2, Sort.permIn_trans _ _ _ _ _ hp2 hr.2, (b1 - 1) - (p' - a1), ?_, by omega, by omega⟩)
       dsimp only
       rw [ju (by omega) (by omega), wrap64_in (n := (p' : Int) - (a1 : Int)) (by omega) (by omega), wrap64_in (by omega) (by omega)]; omega
     rintro ⟨d3, x, hint2⟩ ⟨hd3, hp3, q, hx, hq0, hq1⟩
     dsimp only at hd3 hp3 hx ⊢
     subst hx
     have hB3 : Sort.Below ltI a1 b1 d3.toArray := hB.perm (by simpa using hb1) hp3
     refine Ok.bd (R := fun o : Sum (List Int) (List Int) => match o with | .inl r => r.length = d1.length /\ Sort.PermIn a1 b1 d1.toArray r.toArray | .inr r => vU d a b r) ?_ ?_
     · have stay : Ok (some (Sum.inl d3 : Sum (List Int) (List Int))) (fun o : Sum (List Int) (List Int) => match o with | .inl r => r.length = d1.length /\ Sort.PermIn a1 b1 d1.toArray r.toArray | .inr r => vU d a b r) := aw.2 ⟨hd3, hp3⟩
       refine Ok.cd (fun _ => Ok.cd (fun _ => Ok.cd (fun _ => ?_) (fun _ => stay)) (fun _ => stay)) (fun _ => stay)
       refine Ok.bd (Bq (a := a1) (b := b1) (d := d3) (by omega) (by omega) (by omega) hn) fun r hr => ?_
       have hh := Sort.partialInsertionSort_holds (lt := ltI) yH d3.toArray a1 b1 (by omega) (by simp; omega) hB3
       rw [<- hr.2] at hh
       refine Ok.gd (decide_eq_true hr.1) (Ok.cd (fun ht => ?_) (fun _ => ?_))
       · exact aw.2 (q7 (hK _ (Sort.permIn_trans _ _ _ _ _ hp3 hh.1) (hh.2 ht)))
       · exact aw.2 ⟨by rw [hr.1]; exact hd3, Sort.permIn_trans _ _ _ _ _ hp3 hh.1⟩
     clear hB3 hp3 hd3 hp2 hd2
     rintro (d4 | r) h4
     · obtain ⟨hd4, hp4⟩ := h4
       dsimp only at hd4 hp4 ⊢
       have hB4 : Sort.Below ltI a1 b1 d4.toArray := hB.perm (by simpa using hb1) hp4
       have hsz : b1 <= d4.toArray.size := by simp; omega
       refine Ok.bd (R := fun o : Sum (List Int × Int) Unit => match o with
        | .inl r => r.1.length = d1.length /\ ∃ m : Nat, r.2 = m /\ a1 < m /\ m <= b1 /\ Sort.Below ltI m b1 r.1.toArray /\ ∀ R, Sort.PermIn m b1 r.1.toArray R -> Sort.SortedIn ltI m b1 R -> Sort.PermIn a1 b1 d4.toArray R /\ Sort.SortedIn ltI a1 b1 R
        | .inr _ => True) ?_ ?_
       · refine Ok.cd (fun ha => ?_) (fun _ => aw.2 trivial)
         have ha := dcT ha
         have ha : 0 < a1 := by omega
         rw [ju (by omega) (by omega)]
         refine Ok.gd (by rw [aJ]; exact decide_eq_true (by omega)) (Ok.gd (by rw [aJ]; exact decide_eq_true (by omega)) ?_)
         refine Ok.bde (gO n _ _) ?_
         refine Ok.cd (fun hlt => ?_) (fun _ => aw.2 trivial)
         have hlt : ltI d4.toArray[a1 - 1]! d4.toArray[q]! = false := by rw [dh, dh]; simpa using hlt
         refine Ok.bd (Aw hq0 hq1 (by omega) (by omega) hn) ?_
         rintro ⟨r, x⟩ ⟨hr, m, hx, he⟩
         dsimp only at hr hx he ⊢
         have hh := Sort.round_eq yH (Sort.partitionEqual_holds ltI) ha hq0 hq1 hsz hB4 hlt he.symm
         exact Ok.gd (decide_eq_true hr) (aw.2 ⟨by rw [hr]; exact hd4, m, hx, hh.1, hh.2.1, hh.2.2.2.1, hh.2.2.2.2⟩)
       · rintro (⟨r, x⟩ | _) h5
         · obtain ⟨hr, m, hx, hm0, hm1, hBm, hR⟩ := h5
           dsimp only at hr hx hBm hR ⊢
           subst hx
           exact ih (r, (m : Int), (b1 : Int), lim, wb, wp) ⟨m, b1, rfl, rfl, hm1, hb, by rw [hr]; exact hd1, by omega, hl3, hl4, hBm, fun R h1 h2 => by
            have := hR R h1 h2
            exact hK R (Sort.permIn_trans _ _ _ _ _ hp4 this.1) this.2⟩ (by first | omega | (dsimp only; omega))
         · refine Ok.bd (Al hq0 hq1 (by omega) (by omega) hn) ?_
           rintro ⟨r, x, ap⟩ ⟨hr, m, hx, he⟩
           dsimp only at hr hx he ⊢
           subst hx
           have hh := Sort.round_part yH (Sort.partition_holds ltI) hq0 hq1 hsz hB4 he.symm
           obtain ⟨hm0, hm1, _, hBl, hBr, hL, hR⟩ := hh
           have g1 : Ew ((m : Int) - (a1 : Int)) = ((m - a1 : Nat) : Int) := by rw [wrap64_in (by omega) (by omega)]; omega
           have g2 : Ew ((b1 : Int) - (m : Int)) = ((b1 - m : Nat) : Int) := by rw [wrap64_in (by omega) (by omega)]; omega
           rw [g1, g2, eu (m := m) (by omega)]
           clear g1 g2
           refine Ok.gd (decide_eq_true hr) (Ok.cd (fun hc => ?_) (fun hc => ?_))
           · have hc := dcT hc
             refine Ok.bd (hrc (by omega) r a1 m lim hm0 (by omega) (by omega) (by omega) hl3 hl4 hBl) fun L hLL => ?_
             obtain ⟨hLl, hLp, hLs⟩ := hLL
             obtain ⟨hBL, hRR⟩ := hL _ hLp hLs
             refine Ok.gd (decide_eq_true (by rw [hLl]; exact hr)) ?_
             exact ih (L, ((m + 1 : Nat) : Int), (b1 : Int), lim, _, _) ⟨m + 1, b1, rfl, rfl, by omega, hb, by dsimp only; omega, by omega, hl3, hl4, hBL, fun R h1 h2 => by
              have := hRR R h1 h2
              exact hK R (Sort.permIn_trans _ _ _ _ _ hp4 this.1) this.2⟩ (by first | omega | (dsimp only; omega))
           · have hc := dcF hc
             refine Ok.bd (hrc (by omega) r (m + 1) b1 lim (by omega) (by omega) (by omega) (by omega) hl3 hl4 hBr) fun L hLL => ?_
             obtain ⟨hLl, hLp, hLs⟩ := hLL
             obtain ⟨hBL, hRR⟩ := hR _ hLp hLs
             refine Ok.gd (decide_eq_true (by rw [hLl]; exact hr)) ?_
             exact ih (L, (a1 : Int), (m : Int), lim, _, _) ⟨a1, m, rfl, rfl, by omega, by omega, by dsimp only; omega, by omega, hl3, hl4, hBL, fun R h1 h2 => by
              have := hRR R h1 h2
              exact hK R (Sort.permIn_trans _ _ _ _ _ hp4 this.1) this.2⟩ (by first | omega | (dsimp only; omega))
     · exact aw.2 h4
theorem BY (hn : 2000 < n) : ∀ (k : Nat) (d : List Int) (a b : Nat) (limit : Int), a <= b -> b <= d.length -> d.length <= 1000 -> b - a < 2 ^ k -> 0 <= limit -> limit <= 64 -> Sort.Below ltI a b d.toArray -> Ok (ch n (k + 1) d a b limit) (vU d a b) := by
 intro k
 induction k with
 | zero =>
  intro d a b limit h1 h2 h3 h4 h5 h6 h7
  exact yo (S := 1) (fun h => by omega) h1 h2 h3 (by omega) h5 h6 h7 hn
 | succ k IH =>
  intro d a b limit h1 h2 h3 h4 h5 h6 h7
  refine yo (S := 2 ^ (k + 1)) (fun _ d a b limit g1 g2 g3 g4 g5 g6 g7 => IH d a b limit g1 g2 g3 (by rw [Nat.pow_succ] at g4; omega) g5 g6 g7) h1 h2 h3 h4 h5 h6 h7 hn
theorem y9 : (List.range 1001).all (fun L => match dO 0 (L : Int) with | some v => decide (0 <= v) && decide (v <= 64) | none => false) = true := by kernel_rfl
theorem BJ {L : Nat} (h2 : L <= 1000) : ∃ v : Int, dO n (L : Int) = some v /\ 0 <= v /\ v <= 64 := by
 have h := List.all_eq_true.1 y9 L (List.mem_range.2 (by omega))
 rw [show dO n (L : Int) = dO 0 (L : Int) by rfl]
 cases hv : dO 0 (L : Int) with
 | none => rw [hv] at h; cases h
 | some v =>
  rw [hv] at h
  simp only [Bool.and_eq_true, decide_eq_true_eq] at h
  exact ⟨v, rfl, h.1, h.2⟩
theorem B0 {d : List Int} (hl : d.length <= 1000) (hn : 2000 < n) : Ok (cL n d) (fun r => r.Perm d /\ ∀ i j : Nat, i < j -> j < r.length -> gt r (i : Int) <= gt r (j : Int)) := by
 unfold cL dK
 rw [dJ (by omega) (by omega)]
 obtain ⟨v, hv, hv0, hv1⟩ := BJ (n := n) hl
 refine Ok.bde hv ?_
 obtain ⟨k, rfl⟩ : ∃ k, n = k + 1 := ⟨n - 1, by omega⟩
 have hk : d.length - 0 < 2 ^ k := by
  have : 2 ^ 10 <= 2 ^ k := Nat.pow_le_pow_right (by omega) (by omega)
  omega
 refine Ok.bd (BY hn k d 0 d.length v (by omega) (by omega) hl hk hv0 hv1 (.inl rfl)) fun r hr => ?_
 obtain ⟨h1, h2, h3⟩ := hr
 refine Ok.gd (decide_eq_true h1) (aw.2 ⟨?_, fun i j hij hj => ?_⟩)
 · have hp := h2.2.2
   have e : (r.toArray.extract 0 d.length).toList = r := by simp [<- h1]
   have e2 : (d.toArray.extract 0 d.length).toList = d := by simp
   rw [e, e2] at hp; exact hp
 · have := h3 i j (by omega) hij (by omega)
   rw [dh, dh] at this
   simp only [ltI, Sort.ltInt, decide_eq_false_iff_not] at this
   omega
end
end Go.L


set_option linter.all false
namespace Go.L
open Go Go.Eng
section
variable {n : Nat}
theorem BN {s : List Int} (hl : s.length <= 1000) (hn : 2000 < n) : Ok (ct n s) (fun r => r.length = s.length -> ∀ k : Nat, k + 1 < s.length -> gt s ((k + 1 : Nat) : Int) ≠ gt s (k : Int)) := by
 unfold ct
 refine Ok.cd (fun h => ?_) (fun h => ?_)
 · have h := dcT h
   exact aw.2 fun _ k hk => by omega
 · have h := dcF h
   have h : 2 <= s.length := by omega
   refine Ok.bd (R := fun o : Sum Unit (List Int) => match o with | .inl _ => ∀ k : Nat, k + 1 < s.length -> gt s ((k + 1 : Nat) : Int) ≠ gt s (k : Int) | .inr r => r.length < s.length) ?_ (by
    rintro (_ | r) h
    · exact aw.2 fun _ => h
    · exact aw.2 fun h2 => by dsimp only at h; omega)
   refine bI (fun x : Int => ∃ k : Nat, x = k /\ 1 <= k /\ k <= s.length /\ ∀ j : Nat, j + 1 < k -> gt s ((j + 1 : Nat) : Int) ≠ gt s (j : Int)) (fun x => s.length - x.toNat) ?_ n _ ⟨1, rfl, by omega, by omega, fun j hj => by omega⟩ (by first | omega | (dsimp only; omega))
   rintro again x ⟨k, rfl, hk1, hk, hk2⟩ ih
   refine Ok.cd (fun hc => ?_) (fun hc => ?_)
   · have hc := dcT hc
     have hc : k < s.length := by omega
     rw [ju hk1 (by omega)]
     refine Ok.gd (by rw [aJ]; exact decide_eq_true (by omega)) (Ok.gd (by rw [aJ]; exact decide_eq_true (by omega)) ?_)
     refine Ok.cd (fun he => ?_) (fun he => ?_)
     · refine Ok.gd (by unfold inS; simp; omega) ?_
       simp only [Int.toNat_natCast]
       refine Ok.bd (R := fun r : List Int × Int => r.1.length = s.length /\ ∃ c : Nat, r.2 = c /\ c < s.length) ?_ ?_
       · refine bI (fun t : List Int × Int × Int => t.1.length = s.length /\ ∃ c c2 : Nat, t.2.1 = ((k + c : Nat) : Int) /\ t.2.2 = c2 /\ c + 1 <= c2 /\ c2 <= s.length - k) (fun t => s.length - t.2.2.toNat) ?_ n (s, _, _) ⟨rfl, 0, 1, rfl, rfl, by omega, by omega⟩ (by first | omega | (dsimp only; omega))
         clear ih he
         rintro again2 ⟨t, x, y⟩ ⟨ht, c, c2, hx, hy, h1, h2⟩ ih2
         dsimp only at ht hx hy ⊢
         subst hx; subst hy
         refine Ok.cd (fun hd => ?_) (fun hd => ?_)
         · have hd := dcT hd
           have hd : c2 < s.length - k := by omega
           rw [ju (m := c2) (by omega) (by omega)]
           simp only [Int.toNat_natCast]
           refine Ok.gd (by rw [aJ]; exact decide_eq_true (by omega)) (Ok.gd (by rw [aJ]; exact decide_eq_true (by omega)) (Ok.gd (by rw [aJ]; exact decide_eq_true (by omega)) (Ok.gd (by rw [aJ]; exact decide_eq_true (by omega)) ?_)))
           rw [eu (m := c2) (by omega)]
           refine Ok.cd (fun _ => ?_) (fun _ => ?_)
           · refine Ok.gd (by rw [aJ]; exact decide_eq_true (by omega)) ?_
             rw [eu (m := k + c) (by omega)]
             exact ih2 (_, ((k + c + 1 : Nat) : Int), ((c2 + 1 : Nat) : Int)) ⟨by simp [ht], c + 1, c2 + 1, rfl, rfl, by omega, by omega⟩ (by first | omega | (dsimp only; omega))
           · exact ih2 (_, ((k + c : Nat) : Int), ((c2 + 1 : Nat) : Int)) ⟨ht, c, c2 + 1, rfl, rfl, by omega, by omega⟩ (by first | omega | (dsimp only; omega))
         · exact aw.2 ⟨ht, k + c, rfl, by omega⟩
       · rintro ⟨t, x⟩ ⟨ht, c, hx, hc2⟩
         dsimp only at ht hx ⊢
         subst hx
         refine Ok.gd (by unfold inS; simp; omega) (Ok.gd (by unfold inS; simp; omega) (aw.2 ?_))
         simp only [Int.toNat_natCast, List.length_take, pe]
         omega
     · have he : gt s (k : Int) ≠ gt s ((k - 1 : Nat) : Int) := by simpa using he
       rw [eu (by omega)]
       exact ih _ ⟨k + 1, rfl, by omega, by omega, fun j hj => by
        rcases Nat.lt_or_ge (j + 1) k with h | h
        · exact hk2 j h
        · have : j + 1 = k := by omega
          subst this; exact he⟩ (by first | omega | (dsimp only; omega))
   · have hc := dcF hc
     have : k = s.length := by omega
     subst this
     exact aw.2 hk2
theorem wK {l : List Int} {k : Nat} (hk : k < l.length) : gt l (k : Int) = l[k] := by rw [cO]; simp [List.getD, geT hk]
theorem zQ {l r : List Int} (hp : r.Perm l) (hs : ∀ i j : Nat, i < j -> j < r.length -> gt r (i : Int) <= gt r (j : Int)) (hd : ∀ k : Nat, k + 1 < r.length -> gt r ((k + 1 : Nat) : Int) ≠ gt r (k : Int)) : qL l := by
 have hst : ∀ i j : Nat, i < j -> j < r.length -> gt r (i : Int) < gt r (j : Int) := fun i j hij hj => by
  obtain ⟨m, rfl⟩ : ∃ m, j = m + 1 := ⟨j - 1, by omega⟩
  have h1 := hd m hj
  have h2 := hs m (m + 1) (by omega) hj
  have h3 : gt r (i : Int) <= gt r (m : Int) := by
   rcases Nat.lt_or_ge i m with h | h
   · exact hs i m h (by omega)
   · have : i = m := by omega
     subst this; exact Int.le_refl _
  omega
 have hnd : r.Nodup := by
  refine List.pairwise_iff_getElem.2 fun i j hi hj hij => ?_
  have := hst i j hij hj
  rw [wK hi, wK hj] at this
  omega
 have hnl : l.Nodup := hp.nodup_iff.1 hnd
 intro j k hj hk he
 rw [wK hj, wK hk] at he
 have hq := List.pairwise_iff_getElem.1 hnl
 rcases Nat.lt_trichotomy j k with h | h | h
 · exact absurd he (hq j k hj hk h)
 · exact h
 · exact absurd he.symm (hq k j hk hj h)
theorem Bw {l : List Int} (hl : l.length <= 1000) (hn : 2000 < n) : Ok (dE n l) (fun b => b = true -> qL l) := by
 unfold dE cX
 refine Ok.bde rfl ?_
 refine Ok.bd (R := fun r => r.length = l.length /\ r.Perm l /\ ∀ i j : Nat, i < j -> j < r.length -> gt r (i : Int) <= gt r (j : Int)) ?_ ?_
 · unfold bm bk aX
   refine Ok.bde (show _ = some l from ?_) ?_
   · rw [gdT (decide_eq_true (by omega))]; rfl
   · refine Ok.bd (B0 hl hn) fun r h => ?_
     have := h.1.length_eq
     exact Ok.gd (decide_eq_true this) (aw.2 ⟨this, h.1, h.2⟩)
 · rintro r ⟨h1, h2, h3⟩
   refine Ok.bd (BN (s := r) (by omega) hn) fun c hc => aw.2 fun he => ?_
   have he : c.length = l.length := by have := dcT he; omega
   exact zQ h2 h3 (hc (by omega))
end
end Go.L

