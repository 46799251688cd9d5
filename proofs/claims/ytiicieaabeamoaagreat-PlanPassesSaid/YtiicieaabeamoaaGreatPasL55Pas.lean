import Derived.Test.YtiicieaabeamoaaGreatPasL55z
import Derived.Test.YtiicieaabeamoaaGreatPasL55Ov2
set_option linter.all false
namespace Go.L
open Go Go.Eng
structure RowOk (X : List Int) (N num den p : Int) : Prop where
 ne : X ≠ []
 rng : ∀ x ∈ X, 0 ≤ x ∧ x ≤ N
 fst : X.getD 0 default * (4 * den) ≤ 2 * num
 lst : N * (4 * den) - X.getD (X.length - 1) default * (4 * den) ≤ 2 * num
 gap : ∀ j, j + 1 < X.length → 0 ≤ X.getD (j + 1) default - X.getD j default ∧ (X.getD (j + 1) default - X.getD j default) * (100 * den) ≤ (100 - p) * num
theorem row_ok {N num den p : Int} (h : RowIn N num den p) (h0 : cX N num den p ≠ 0) (hl : (lX N num den p).length ≤ 12) : RowOk (lX N num den p) N num den p := by
 have hN := h.n; have hnum := h.num; have hden := h.den; have hp := h.p
 have ha := ra_in h
 have hd := rd_in h
 have a1 : ra num den * (2 * den) ≤ num := Int.ediv_mul_le num (by omega)
 have d1 : rd num den p * (100 * den) ≤ (100 - p) * num := Int.ediv_mul_le _ (by omega)
 have eb : rb N num den = N - ra num den := rfl
 have a2 : ra num den * (4 * den) ≤ 2 * num := by
  have : ra num den * (4 * den) = 2 * (ra num den * (2 * den)) := by grind
  omega
 have e4 : ∀ x : Int, (N - x) * (4 * den) = N * (4 * den) - x * (4 * den) := fun x => by grind
 have mono : ∀ x y : Int, x ≤ y → x * (4 * den) ≤ y * (4 * den) := fun x y hxy => Int.mul_le_mul_of_nonneg_right hxy (by omega)
 unfold cX rcnt at h0
 unfold lX rlst at hl ⊢
 by_cases hab : rb N num den ≤ ra num den
 · rw [if_pos hab] at hl ⊢
   rw [eb] at hab ⊢
   generalize ra num den = a at *
   have hx : (N - a ≤ max (N - a) (min a (N / 2)) ∧ max (N - a) (min a (N / 2)) ≤ a) ∧ 0 ≤ max (N - a) (min a (N / 2)) ∧ max (N - a) (min a (N / 2)) ≤ N := by omega
   generalize max (N - a) (min a (N / 2)) = x at *
   refine ⟨by simp, fun y hy => by obtain rfl : y = x := by simpa using hy
                                   exact hx.2, ?_, ?_, fun j hj => by simp at hj⟩
   · have := mono x a hx.1.2; show x * (4 * den) ≤ _; omega
   · have := mono (N - a) x hx.1.1
     rw [e4] at this
     show N * (4 * den) - x * (4 * den) ≤ _; omega
 · rw [if_neg hab] at h0 hl ⊢
   have hd1 : 1 ≤ rd num den p := by
    by_cases k : rd num den p = 0
    · rw [if_pos k] at h0; exact absurd rfl h0
    · omega
   obtain ⟨r1, r2, r3, _⟩ := rm_spec (show ra num den < rb N num den by omega) hd1
   rw [List.length_append, stps_len, List.length_singleton] at hl
   have hm : min (rm (ra num den) (rb N num den) (rd num den p)) 300 = rm (ra num den) (rb N num den) (rd num den p) := by omega
   rw [hm] at hl ⊢
   generalize hM : rm (ra num den) (rb N num den) (rd num den p) = M at *
   have hlen : (stps (ra num den) (rd num den p) M ++ [rb N num den]).length = M + 1 := by rw [List.length_append, stps_len]; rfl
   have hat : ∀ j, j < M → (stps (ra num den) (rd num den p) M ++ [rb N num den]).getD j default = ra num den + (j : Int) * rd num den p := fun j hj => by
    simp only [List.getD]; rw [List.getElem?_append_left (by rw [stps_len]; exact hj)]; simp [stps, hj]
   have hlast : (stps (ra num den) (rd num den p) M ++ [rb N num den]).getD M default = rb N num den := by
    simp only [List.getD]; rw [List.getElem?_append_right (by rw [stps_len]; exact Nat.le_refl _), stps_len, Nat.sub_self]; rfl
   rw [eb] at hab hlast hat r2 r3 hlen ⊢
   generalize hX : stps (ra num den) (rd num den p) M ++ [N - ra num den] = X at *
   generalize ra num den = a at *
   generalize rd num den p = d at *
   have jd : ∀ j : Nat, 0 ≤ (j : Int) * d := fun j => Int.mul_nonneg (by omega) (by omega)
   refine ⟨fun e => by rw [e] at hlen; simp at hlen, fun x hx => ?_, ?_, ?_, fun j hj => ?_⟩
   · obtain ⟨j, hj, rfl⟩ := atMem hx
     by_cases k : j < M
     · rw [hat j k]; have := r3 j k; have := jd j; omega
     · have : j = M := by omega
       subst this; rw [hlast]; omega
   · rw [hat 0 (by omega)]; show (a + 0 * d) * _ ≤ _; rw [Int.zero_mul, Int.add_zero]; exact a2
   · have : X.length - 1 = M := by omega
     rw [this, hlast, e4]; omega
   · have key : ∀ g, 0 ≤ g ∧ g ≤ d → 0 ≤ g ∧ g * (100 * den) ≤ (100 - p) * num := fun g hg => ⟨hg.1, Int.le_trans (Int.mul_le_mul_of_nonneg_right hg.2 (by omega)) d1⟩
     have ej : ((j + 1 : Nat) : Int) * d = (j : Int) * d + d := by rw [Int.natCast_add, Int.add_mul]; simp
     by_cases k : j + 1 < M
     · rw [hat j (by omega), hat (j + 1) k, ej]
       exact key _ (by omega)
     · have : j + 1 = M := by omega
       rw [hat j (by omega), this, hlast]
       have q := r3 j (by omega)
       rw [← this, ej] at r2
       exact key _ (by omega)
theorem RowOk.near {X : List Int} {N num den p : Int} (h : RowOk X N num den p) (hin : RowIn N num den p) {m : Int} (h0 : 0 ≤ m) (h1 : m ≤ N * (4 * den)) : ∃ x ∈ X, nearB (4 * den) num x m = true := by
 have hden := hin.den; have hnum := hin.num; have hp := hin.p
 have near : ∀ j, j < X.length → m - X.getD j default * (4 * den) ≤ 2 * num → X.getD j default * (4 * den) - m ≤ 2 * num → ∃ x ∈ X, nearB (4 * den) num x m = true := fun j hj a b => ⟨_, memAt hj, by
  unfold nearB; rw [decide_eq_true a, decide_eq_true (by omega)]; rfl⟩
 have hlen : 0 < X.length := by
  cases hX : X with
  | nil => exact absurd hX h.ne
  | cons => simp
 have key : ∀ j, j < X.length → m ≤ X.getD j default * (4 * den) + 2 * num → ∃ x ∈ X, nearB (4 * den) num x m = true := by
  intro j
  induction j with
  | zero => intro hj hm; exact near 0 hj (by omega) (by have := h.fst; omega)
  | succ j ih =>
   intro hj hm
   by_cases k : X.getD (j + 1) default * (4 * den) - m ≤ 2 * num
   · exact near (j + 1) hj (by omega) k
   · refine ih (by omega) ?_
     obtain ⟨g0, g1⟩ := h.gap j hj
     have e1 : (X.getD (j + 1) default - X.getD j default) * (100 * den) = 25 * (X.getD (j + 1) default * (4 * den) - X.getD j default * (4 * den)) := by grind
     have e2 : (100 - p) * num ≤ 100 * num := Int.mul_le_mul_of_nonneg_right (by omega) (by omega)
     omega
 exact key (X.length - 1) (by omega) (by have := h.lst; omega)
theorem mem_grd {X Y : List Int} {x y : Int} (hx : x ∈ X) (hy : y ∈ Y) : api_Pix.mk x y ∈ (grd X Y).flatten := by
 unfold grd
 rw [List.mem_flatten]
 exact ⟨X.map fun x => api_Pix.mk x y, List.mem_map.2 ⟨y, hy, rfl⟩, List.mem_map.2 ⟨x, hx, rfl⟩⟩
theorem grd_mem {X Y : List Int} {p : api_Pix} (h : p ∈ (grd X Y).flatten) : p.X ∈ X ∧ p.Y ∈ Y := by
 unfold grd at h
 rw [List.mem_flatten] at h
 obtain ⟨l, hl, hp⟩ := h
 obtain ⟨y, hy, rfl⟩ := List.mem_map.1 hl
 obtain ⟨x, hx, rfl⟩ := List.mem_map.1 hp
 exact ⟨hx, hy⟩
theorem grd_at {X Y : List Int} {k : Nat} (hk : k < Y.length) : (grd X Y).getD k default = X.map fun x => api_Pix.mk x (Y.getD k default) := by
 unfold grd; simp [List.getD, List.getElem?_eq_getElem hk]
theorem row_at {X : List Int} {y : Int} {j : Nat} (hj : j < X.length) : (X.map fun x => api_Pix.mk x y).getD j default = api_Pix.mk (X.getD j default) y := by
 simp [List.getD, List.getElem?_eq_getElem hj]
theorem topF_le {K c : Int} : ∀ (l : List Int) (t : Int), 0 ≤ t ∧ t ≤ 2097152 → t * K ≤ c → (∀ d ∈ l, Sm d ∧ d * K ≤ c ∧ -d * K ≤ c) → topF t l * K ≤ c
 | [], t, _, h, _ => h
 | d :: l, t, ht, h, hl => by
  obtain ⟨hd, h1, h2⟩ := hl d (by simp)
  unfold Sm at hd
  show topF (stp t d) l * K ≤ c
  have hs : (stp t d = t ∨ stp t d = d ∨ stp t d = -d) ∧ 0 ≤ stp t d ∧ stp t d ≤ 2097152 := by
   unfold stp
   rw [mx_eq, mx_eq, wrap64_in (by omega) (by omega)]
   omega
  refine topF_le l _ hs.2 ?_ (fun x hx => hl x (by simp [hx]))
  rcases hs.1 with e | e | e <;> rw [e] <;> assumption
theorem ge_neg {g K c : Int} (hg : 0 ≤ g) (hK : 0 ≤ K) (hc : 0 ≤ c) : -g * K ≤ c := by
 rw [Int.neg_mul]
 have := Int.mul_nonneg hg hK; omega
theorem xs_steps {X Y : List Int} {N num den p : Int} (h : RowOk X N num den p) (hin : RowIn N num den p) (hc : 0 ≤ (100 - p) * num) : ∀ k, k ≤ Y.length → ∀ d ∈ xsL (grd X Y) k, Sm d ∧ d * (100 * den) ≤ (100 - p) * num ∧ -d * (100 * den) ≤ (100 - p) * num
 | 0, _, d, hd => by cases hd
 | k + 1, hk, d, hd => by
  rw [xsL] at hd
  rcases List.mem_append.1 hd with hd | hd
  · exact xs_steps h hin hc k (by omega) d hd
  · rw [grd_at (by omega)] at hd
    obtain ⟨j, hj, rfl⟩ := List.mem_map.1 hd
    rw [List.mem_range, List.length_map] at hj
    obtain ⟨g0, g1⟩ := h.gap j (by omega)
    have r1 := h.rng _ (memAt (l := X) (k := j + 1) (by omega))
    have r2 := h.rng _ (memAt (l := X) (k := j) (by omega))
    have hN := hin.n; have hden := hin.den
    unfold dX
    rw [show j + 1 - 1 = j by omega, row_at (by omega), row_at (by omega)]
    dsimp only
    rw [wrap64_in (by omega) (by omega)]
    exact ⟨by unfold Sm; omega, g1, ge_neg g0 (by omega) hc⟩
theorem ys_steps {X Y : List Int} {N num den p : Int} (hX : X ≠ []) (h : RowOk Y N num den p) (hin : RowIn N num den p) (hc : 0 ≤ (100 - p) * num) : ∀ k, k ≤ Y.length → ∀ d ∈ ysL (grd X Y) k, Sm d ∧ d * (100 * den) ≤ (100 - p) * num ∧ -d * (100 * den) ≤ (100 - p) * num
 | 0, _, d, hd => by cases hd
 | k + 1, hk, d, hd => by
  rw [ysL] at hd
  rcases List.mem_append.1 hd with hd | hd
  · exact ys_steps hX h hin hc k (by omega) d hd
  · split at hd
    · rename_i h0
      obtain rfl := List.mem_singleton.1 hd
      obtain ⟨g0, g1⟩ := h.gap (k - 1) (by omega)
      have e : k - 1 + 1 = k := by omega
      rw [e] at g0 g1
      have r1 := h.rng _ (memAt (l := Y) (k := k) (by omega))
      have r2 := h.rng _ (memAt (l := Y) (k := k - 1) (by omega))
      have hN := hin.n; have hden := hin.den
      have hXl : 0 < X.length := by
       cases hX' : X with
       | nil => exact absurd hX' hX
       | cons => simp
      unfold dY
      rw [grd_at (by omega), grd_at (by omega), row_at hXl, row_at hXl]
      dsimp only
      rw [wrap64_in (by omega) (by omega)]
      exact ⟨by unfold Sm; omega, g1, ge_neg g0 (by omega) hc⟩
    · cases hd
theorem sum_stripsE (ls : List (List api_Pix)) : (ls.map fun z => ((z.map fun z => (1 + (1 + 0))).sum + 1)).sum = ls.length + 2 * ls.flatten.length := by
 induction ls with
 | nil => simp
 | cons l ls ih => rw [List.map_cons, List.sum_cons, sum_two, List.flatten_cons, List.length_append, List.length_cons, ih]; omega
theorem overlap_ge {n : Nat} (hn : 5000 ≤ n) {x y : api_Rat} {t F num p : Int} (hF : 1 ≤ F) (hnum : 1 ≤ num) (hx : Qx x (Rat.divInt 1 1 - Rat.divInt (t * F) num) 7) (hy : R.Qx y (Rat.divInt p 100) 3) (ht : t * (100 * F) ≤ (100 - p) * num) :
  ∃ v, fiducialref02_Compare n x y = some v ∧ decide (v ≥ 0) = true := by
 refine ⟨_, R.qCompare_ok hn (j := 7) (k := 3) (by omega) hx hy, ?_⟩
 rw [Rat.divInt_sub_divInt _ _ (by omega) (by omega), sgn_sub (by omega) (by omega)]
 have e : (1 * num - t * F * 1) * 100 - p * (1 * num) = (100 - p) * num - t * (100 * F) := by grind
 rw [e]
 have := sgn_cases ((100 - p) * num - t * (100 * F))
 exact decide_eq_true (by omega)
theorem passes_v (s : api_Survey) (height : Int) : fiduciallaw55_PlanPasses 5000 s height = some true := by
 apply Ok.eq
 unfold fiduciallaw55_PlanPasses
 refine Ok.bde known55_v (Ok.cd (fun h => by cases h) (fun _ => ?_))
 by_cases hc : chk s = 0
 rotate_left
 · have b1 : (chk s != 0) = true := by simpa using hc
   refine Ok.bde (make_bad hc height) (Ok.cd (fun _ => ok_some.2 rfl) (fun h => ?_))
   exact absurd h (by show ¬ (chk s != 0) = false; rw [b1]; decide)
 by_cases hn : near height
 rotate_left
 · exact Ok.bde (make_far hc hn) (Ok.cd (fun _ => ok_some.2 rfl) (fun h => by cases h))
 by_cases hg : height ≤ s.High
 · exact Ok.bde (make_low hc hn hg) (Ok.cd (fun _ => ok_some.2 rfl) (fun h => by cases h))
 obtain ⟨ok, hlow⟩ := chk_zero hc
 refine Ok.bde (make_v (by omega) hc hn hg) (Ok.cd (fun _ => ok_some.2 rfl) (fun h0 => ?_))
 have h0 : (mkd s height).2 = 0 := by simpa using h0
 obtain ⟨rx, _⟩ := rowX ok hn hg
 obtain ⟨ry, _⟩ := rowY ok hn hg
 have lx := @lX_len s.Width (s.Along * (height - s.High)) s.Focal s.Overlap
 have ly := @lX_len s.Height (s.Across * (height - s.High)) s.Focal s.Sidelap
 have cx0 := cX_pos s.Width (s.Along * (height - s.High)) s.Focal s.Overlap
 have cy0 := cX_pos s.Height (s.Across * (height - s.High)) s.Focal s.Sidelap
 have hform : (mkd s height).1 = api_Flight.mk height (grd (lX s.Width (s.Along * (height - s.High)) s.Focal s.Overlap) (lX s.Height (s.Across * (height - s.High)) s.Focal s.Sidelap)) ∧ cX s.Width (s.Along * (height - s.High)) s.Focal s.Overlap ≠ 0 ∧ cX s.Height (s.Across * (height - s.High)) s.Focal s.Sidelap ≠ 0 ∧ (lX s.Width (s.Along * (height - s.High)) s.Focal s.Overlap).length * (lX s.Height (s.Across * (height - s.High)) s.Focal s.Sidelap).length ≤ 256 ∧ (lX s.Height (s.Across * (height - s.High)) s.Focal s.Sidelap).length ≤ 256 ∧ 1 ≤ (lX s.Width (s.Along * (height - s.High)) s.Focal s.Overlap).length ∧ 1 ≤ (lX s.Height (s.Across * (height - s.High)) s.Focal s.Sidelap).length := by
  unfold mkd at h0 ⊢
  dsimp only at h0 ⊢
  split at h0
  · cases h0
  rename_i h1
  split at h0
  · cases h0
  rename_i h2
  rw [if_neg h1, if_neg h2]
  have e1 := lx (by omega)
  have e2 := ly (by omega)
  refine ⟨rfl, by omega, by omega, ?_, by omega, by omega, by omega⟩
  have e3 : ((lX s.Width (s.Along * (height - s.High)) s.Focal s.Overlap).length : Int) = cX s.Width (s.Along * (height - s.High)) s.Focal s.Overlap := by omega
  have e4 : ((lX s.Height (s.Across * (height - s.High)) s.Focal s.Sidelap).length : Int) = cX s.Height (s.Across * (height - s.High)) s.Focal s.Sidelap := by omega
  have : (((lX s.Width (s.Along * (height - s.High)) s.Focal s.Overlap).length * (lX s.Height (s.Across * (height - s.High)) s.Focal s.Sidelap).length : Nat) : Int) ≤ 256 := by
   rw [Int.natCast_mul, e3, e4]; omega
  omega
 obtain ⟨hf, nx, ny, l1, l2, l3, l4⟩ := hform
 rw [hf]
 have hzx : 1 ≤ s.Along * (height - s.High) := rx.num.1
 have hzy : 1 ≤ s.Across * (height - s.High) := ry.num.1
 have hox := @row_ok _ _ _ _ rx nx
 have hoy := @row_ok _ _ _ _ ry ny
 generalize lX s.Width (s.Along * (height - s.High)) s.Focal s.Overlap = X at *
 generalize lX s.Height (s.Across * (height - s.High)) s.Focal s.Sidelap = Y at *
 obtain ⟨f, hfd⟩ : ∃ f, f = api_Flight.mk height (grd X Y) := ⟨_, rfl⟩
 rw [← hfd]
 have fS : f.Strips = grd X Y := by rw [hfd]
 have fH : f.Height = height := by rw [hfd]
 have sl : f.Strips.length = Y.length := by rw [fS]; simp [grd]
 have pl : (pts f).length = X.length * Y.length := by
  unfold pts; rw [fS]; unfold grd
  rw [List.length_flatten, List.map_map]
  have : (List.length ∘ fun y => X.map fun x => api_Pix.mk x y) = fun _ => X.length := by funext y; simp
  rw [this, List.map_const', List.sum_replicate_nat, Nat.mul_comm]
 have hsz : fsz f ≤ 1048576 := by
  unfold fsz; rw [sum_stripsE]
  have : f.Strips.flatten.length = X.length * Y.length := pl
  omega
 refine Ok.bde (few_v (by omega) hsz 12) (Ok.cd (fun _ => ok_some.2 rfl) (fun hfew => ?_))
 obtain ⟨f1, f2⟩ := dec_of hfew
 have f2 : (pts f).length ≤ 12 := by omega
 have hX12 : X.length ≤ 12 := by
  have : X.length * 1 ≤ X.length * Y.length := Nat.mul_le_mul_left _ l4
  omega
 have hY12 : Y.length ≤ 12 := by
  have : 1 * Y.length ≤ X.length * Y.length := Nat.mul_le_mul_right _ l3
  omega
 have hox := hox hX12
 have hoy := hoy hY12
 have hw := ok.w; have hh := ok.h
 have hnr : ∀ p ∈ pts f, near p.X ∧ near p.Y := fun p hp => by
  unfold pts at hp; rw [fS] at hp
  obtain ⟨a, b⟩ := grd_mem hp
  have ra := hox.rng _ a; have rb := hoy.rng _ b
  unfold near; constructor <;> constructor <;> omega
 obtain ⟨s', hs'⟩ : ∃ s', s' = api_Survey.mk s.Width s.Height s.Low s.High s.Across s.Along s.Focal s.Overlap s.Sidelap 1 := ⟨_, rfl⟩
 rw [← hs']
 have ok' : OkS s' := by rw [hs']; exact ⟨ok.w, ok.h, ok.lo, ok.hi, ok.ac, ok.al, ok.fo, ok.ov, ok.si, ⟨by dsimp only; omega, by dsimp only; omega⟩⟩
 have c' : chk s' = 0 := chk_good ok' (by rw [hs']; exact hlow)
 have hbad : (pts f).any badP = false := by
  rw [List.any_eq_false]; intro p hp
  obtain ⟨a, b⟩ := hnr p hp
  unfold badP; rw [far_f.2 a, far_f.2 b]; decide
 have hfc : fcode f = 0 := by
  unfold fcode
  rw [fH, far_f.2 hn, hbad, if_neg (by decide), if_neg (by omega)]
 have hnrH : near s.High := by have := ok.hi; unfold near; exact this
 have hs'H : s'.High = s.High := by rw [hs']
 have hrc : rcode s' f s.High = 0 := by
  unfold rcode
  rw [if_neg (fun h => h c'), if_neg (fun h => h hfc), if_neg (by rw [far_f.2 hnrH]; decide), if_neg (by rw [fH]; exact hg)]
 have hver : plan_Verify 5000 s' f = some 0 := by
  apply Ok.eq
  unfold plan_Verify
  rw [hs'H]
  refine Ok.bde (askedT_v (by omega) f1 (by omega) s.High) ?_
  rw [hrc]
  refine Ok.cd (fun h => by cases h) (fun _ => ?_)
  refine Ok.bd (cover_ok (by omega) ok' f1 f2 hnr (by rw [fH]; exact hn) hnrH (by rw [fH]; exact hg)) fun v hv => ?_
  have h1 := hv.1
  rw [fH] at h1
  have e1 : s'.Width = s.Width := by rw [hs']
  have e2 : s'.Height = s.Height := by rw [hs']
  have e3 : s'.Along = s.Along := by rw [hs']
  have e4 : s'.Across = s.Across := by rw [hs']
  have e5 : s'.Focal = s.Focal := by rw [hs']
  have e6 : s'.Views = 1 := by rw [hs']
  rw [e1, e2, e3, e4, e5] at h1
  have hge : 1 ≤ v.1 := by
   rw [h1]
   have axx : AxIn s.Width s.Focal (s.Along * (height - s.High)) ((pts f).map (·.X)) := ⟨ok.w, ok.fo, by have := rx.num; omega, by simpa using f2, fun x hx => by
    obtain ⟨p, hpp, rfl⟩ := List.mem_map.1 hx; exact (hnr p hpp).1⟩
   have axy : AxIn s.Height s.Focal (s.Across * (height - s.High)) ((pts f).map (·.Y)) := ⟨ok.h, ok.fo, by have := ry.num; omega, by simpa using f2, fun x hx => by
    obtain ⟨p, hpp, rfl⟩ := List.mem_map.1 hx; exact (hnr p hpp).2⟩
   have ix := axM_in axx
   have iy := axM_in axy
   rcases bestA_or (cnt := cntP (pts f) (4 * s.Focal) (s.Along * (height - s.High)) (s.Across * (height - s.High))) (L' := axM s.Height (4 * s.Focal) (s.Across * (height - s.High)) ((pts f).map (·.Y))) (axM s.Width (4 * s.Focal) (s.Along * (height - s.High)) ((pts f).map (·.X))) (257, 0, 0) with h | ⟨m, m', k1, k2, k3⟩
   · rw [h]; decide
   · rw [k3]
     obtain ⟨x, hx, nbx⟩ := hox.near rx (ix m k1).1 (ix m k1).2
     obtain ⟨y, hy, nby⟩ := hoy.near ry (iy m' k2).1 (iy m' k2).2
     have hpos : 0 < (pts f).countP (fun p => nearB (4 * s.Focal) (s.Along * (height - s.High)) p.X m && nearB (4 * s.Focal) (s.Across * (height - s.High)) p.Y m') := by
      rw [List.countP_pos_iff]
      exact ⟨api_Pix.mk x y, by unfold pts; rw [fS]; exact mem_grd hx hy, by rw [nbx, nby]; rfl⟩
     show 1 ≤ ((List.countP _ (pts f) : Nat) : Int)
     omega
  rw [e6]
  exact Ok.cd (fun h => by have := of_decide_eq_true h; omega) (fun _ => ok_some.2 rfl)
 refine Ok.bde hver (Ok.cd (fun h => by cases h) (fun _ => ?_))
 have hac : acode s' f s.High = 0 := by
  unfold acode
  rw [if_neg (fun h => h c'), if_neg (fun h => h hfc), if_neg (by rw [far_f.2 hnrH]; decide), if_neg ?_, if_neg (by rw [fH]; exact hg)]
  rintro (h | h)
  · omega
  · rw [List.any_eq_true] at h
    obtain ⟨l, hl, h⟩ := h
    rw [fS] at hl
    obtain ⟨y, _, rfl⟩ := List.mem_map.1 hl
    unfold noP at h
    have : ((X.map fun x => api_Pix.mk x y).length : Int) = 0 := by simpa using h
    rw [List.length_map] at this; omega
 refine Ok.bd (ovl_ok (by omega) f1 (by omega) hac) fun v hv => ?_
 obtain ⟨v1, v2, v3⟩ := v
 obtain ⟨g1, g2, g3⟩ := hv
 dsimp only at g1 g2 g3
 subst g3
 rw [fH] at g1 g2
 have e3 : s'.Along = s.Along := by rw [hs']
 have e4 : s'.Across = s.Across := by rw [hs']
 have e5 : s'.Focal = s.Focal := by rw [hs']
 rw [e3, e5] at g1
 rw [e4, e5] at g2
 have hov := ok.ov; have hsi := ok.si; have hfo := ok.fo
 refine Ok.bd (R.qOf_ok (by omega) (by omega) (by omega) (by omega) (by omega) (by omega)) fun x hx => Ok.bd (R.qOf_ok (by omega) (by omega) (by omega) (by omega) (by omega) (by omega)) fun y hy => ?_
 refine Ok.cd (fun _ => ?_) (fun h => by cases h)
 have cx : 0 ≤ (100 - s.Overlap) * (s.Along * (height - s.High)) := Int.mul_nonneg (by omega) (by omega)
 have cy : 0 ≤ (100 - s.Sidelap) * (s.Across * (height - s.High)) := Int.mul_nonneg (by omega) (by omega)
 have tx : tX f * (100 * s.Focal) ≤ (100 - s.Overlap) * (s.Along * (height - s.High)) := by
  unfold tX; rw [sl, fS]
  exact topF_le _ 0 (by omega) (by rw [Int.zero_mul]; exact cx) (xs_steps hox rx cx Y.length (Nat.le_refl _))
 have ty : tY f * (100 * s.Focal) ≤ (100 - s.Sidelap) * (s.Across * (height - s.High)) := by
  unfold tY; rw [sl, fS]
  exact topF_le _ 0 (by omega) (by rw [Int.zero_mul]; exact cy) (ys_steps hox.ne hoy ry cy Y.length (Nat.le_refl _))
 obtain ⟨w1, q1, q2⟩ := overlap_ge (n := 5000) (by omega) hfo.1 hzx g1 hx.1 tx
 obtain ⟨w2, q3, q4⟩ := overlap_ge (n := 5000) (by omega) hfo.1 hzy g2 hy.1 ty
 refine Ok.bde q1 (Ok.cd (fun _ => Ok.bde q3 (ok_some.2 q4)) (fun h => by rw [q2] at h; cases h))
end Go.L

