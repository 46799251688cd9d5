import Derived.Test.YtgleghponjgkpaaGreatSldL52S
set_option linter.all false
namespace Go.L
open Go Go.Eng
theorem bnd3 {a b : Int} {A B : Int} (ha : -A ≤ a ∧ a ≤ A) (hb : -B ≤ b ∧ b ≤ B) (hA : 0 ≤ A) (hB : 0 ≤ B) : -(A * B) ≤ a * b ∧ a * b ≤ A * B := mul_bound ha.1 ha.2 hb.1 hb.2
theorem detW_eq {xp yp zp xq yq zq xr yr zr : Int} (h1 : -32 ≤ xp ∧ xp ≤ 32) (h2 : -32 ≤ yp ∧ yp ≤ 32) (h3 : -400 ≤ zp ∧ zp ≤ 400) (h4 : -32 ≤ xq ∧ xq ≤ 32) (h5 : -32 ≤ yq ∧ yq ≤ 32) (h6 : -400 ≤ zq ∧ zq ≤ 400) (h7 : -32 ≤ xr ∧ xr ≤ 32) (h8 : -32 ≤ yr ∧ yr ≤ 32) (h9 : -400 ≤ zr ∧ zr ≤ 400) :
  wrapF .i64 ((wrapF .i64 ((wrapF .i64 (xp * (wrapF .i64 ((wrapF .i64 (yq * zr)) - (wrapF .i64 (zq * yr)))))) + (wrapF .i64 (yp * (wrapF .i64 ((wrapF .i64 (zq * xr)) - (wrapF .i64 (xq * zr)))))))) + (wrapF .i64 (zp * (wrapF .i64 ((wrapF .i64 (xq * yr)) - (wrapF .i64 (yq * xr))))))) = det3 xp yp zp xq yq zq xr yr zr ∧ -3000000 ≤ det3 xp yp zp xq yq zq xr yr zr ∧ det3 xp yp zp xq yq zq xr yr zr ≤ 3000000 := by
 have a1 := bnd3 (A := 32) (B := 400) h5 h9 (by omega) (by omega)
 have a2 := bnd3 (A := 400) (B := 32) h6 h8 (by omega) (by omega)
 have a3 := bnd3 (A := 400) (B := 32) h6 h7 (by omega) (by omega)
 have a4 := bnd3 (A := 32) (B := 400) h4 h9 (by omega) (by omega)
 have a5 := bnd3 (A := 32) (B := 32) h4 h8 (by omega) (by omega)
 have a6 := bnd3 (A := 32) (B := 32) h5 h7 (by omega) (by omega)
 have b1 := bnd3 (a := xp) (b := yq * zr - zq * yr) (A := 32) (B := 25600) h1 (by omega) (by omega) (by omega)
 have b2 := bnd3 (a := yp) (b := zq * xr - xq * zr) (A := 32) (B := 25600) h2 (by omega) (by omega) (by omega)
 have b3 := bnd3 (a := zp) (b := xq * yr - yq * xr) (A := 400) (B := 2048) h3 (by omega) (by omega) (by omega)
 rw [wrap64_in (n := yq * zr) (by omega) (by omega), wrap64_in (n := zq * yr) (by omega) (by omega), wrap64_in (n := zq * xr) (by omega) (by omega), wrap64_in (n := xq * zr) (by omega) (by omega), wrap64_in (n := xq * yr) (by omega) (by omega), wrap64_in (n := yq * xr) (by omega) (by omega),
  wrap64_in (n := yq * zr - zq * yr) (by omega) (by omega), wrap64_in (n := zq * xr - xq * zr) (by omega) (by omega), wrap64_in (n := xq * yr - yq * xr) (by omega) (by omega),
  wrap64_in (n := xp * (yq * zr - zq * yr)) (by omega) (by omega), wrap64_in (n := yp * (zq * xr - xq * zr)) (by omega) (by omega), wrap64_in (n := zp * (xq * yr - yq * xr)) (by omega) (by omega),
  wrap64_in (n := xp * (yq * zr - zq * yr) + yp * (zq * xr - xq * zr)) (by omega) (by omega), wrap64_in (n := xp * (yq * zr - zq * yr) + yp * (zq * xr - xq * zr) + zp * (xq * yr - yq * xr)) (by omega) (by omega)]
 unfold det3
 exact ⟨rfl, by omega, by omega⟩
theorem flat_takeB {β : Type} (f : A3 Int → List β) {l : List (A3 Int)} {k : Nat} (h : k < l.length) : (l.take (k + 1)).flatMap f = (l.take k).flatMap f ++ f (l.getD k default) := by
 rw [List.take_add_one, List.getElem?_eq_getElem h, List.flatMap_append]
 simp [List.getD, List.getElem?_eq_getElem h]
theorem sI_take {f : A3 Int → Int} {l : List (A3 Int)} {k : Nat} (h : k < l.length) : sI ((l.take (k + 1)).map f) = sI ((l.take k).map f) + f (l.getD k default) := by
 rw [List.take_add_one, List.getElem?_eq_getElem h, List.map_append, sI_append]
 simp [List.getD, List.getElem?_eq_getElem h, sI]
theorem sI_bd {f : A3 Int → Int} {B : Int} (hB : 0 ≤ B) : ∀ l : List (A3 Int), (∀ t ∈ l, -B ≤ f t ∧ f t ≤ B) → -(l.length * B) ≤ sI (l.map f) ∧ sI (l.map f) ≤ l.length * B
 | [], _ => by simp [sI]
 | t :: l, h => by
  have h1 := h t (by simp)
  have h2 := sI_bd hB l fun t ht => h t (by simp [ht])
  rw [List.map_cons, sI, List.length_cons]
  have e : ((l.length + 1 : Nat) : Int) * B = (l.length : Int) * B + B := by rw [Int.natCast_add, Int.add_mul]; simp
  rw [e]; omega
theorem foldO_false {ε : Type} {f : Bool → ε → Option Bool} : ∀ l : List ε, (∀ e ∈ l, f false e = some false) → foldO f false l = some false
 | [], _ => rfl
 | e :: l, h => by
  rw [foldO, h e (by simp)]
  exact foldO_false l fun e he => h e (by simp [he])
theorem sumQ_up {N : Nat} {f : Nat → Int} {hh : Int → Int} : ∀ T : List (A3 Int), (∀ t ∈ T, (0 ≤ hh t.e0 ∧ 0 ≤ hh t.e1 ∧ 0 ≤ hh t.e2) ∧ upF N f t = 36 * (hh t.e0 + hh t.e1 + hh t.e2)) →
  sumQ (T.map (xh hh)) = (sI (T.map (upF N f)) : Rat) / 108 ∧ sumQ (T.map (yh hh)) = 0
 | [], _ => ⟨by show (0 : Rat) = ((0 : Int) : Rat) / 108; grind, rfl⟩
 | t :: T, h => by
  obtain ⟨⟨a, b, c⟩, e⟩ := h t (by simp)
  obtain ⟨i1, i2⟩ := sumQ_up T fun t ht => h t (by simp [ht])
  have a' : (0 : Rat) ≤ (hh t.e0 : Int) := by exact_mod_cast a
  have b' : (0 : Rat) ≤ (hh t.e1 : Int) := by exact_mod_cast b
  have c' : (0 : Rat) ≤ (hh t.e2 : Int) := by exact_mod_cast c
  have hx : xh hh t = ((hh t.e0 : Int) + ((hh t.e1 : Int) + (hh t.e2 : Int) : Rat)) / 3 := xq_all a' b' c'
  have hy : yh hh t = 0 := (xy_sp _ _ _).p a' b' c'
  rw [List.map_cons, List.map_cons, List.map_cons, sumQ, sumQ, sI, hx, hy, i1, i2, e]
  refine ⟨?_, by grind⟩
  push_cast
  grind
theorem det_bd {w h : Nat} {f : Nat → Int} (hp : ∀ k, (-32 ≤ pxI w (w * h) k ∧ pxI w (w * h) k ≤ 32) ∧ (-32 ≤ pyI w (w * h) k ∧ pyI w (w * h) k ≤ 32)) (hf : ∀ m, -400 ≤ f m ∧ f m ≤ 400) (t : A3 Int) : -3000000 ≤ detF w (w * h) f t ∧ detF w (w * h) f t ≤ 3000000 :=
 (detW_eq (hp _).1 (hp _).2 (hf _) (hp _).1 (hp _).2 (hf _) (hp _).1 (hp _).2 (hf _)).2
end Go.L


set_option linter.all false
namespace Go.L
open Go Go.Eng
def hgtF (Z : List Int) (base : Int) (m : Nat) : Int := if m < Z.length then Z.getD m default else base
theorem tdiv_nat {a b : Nat} : ((a : Int)).tdiv (b : Int) = ((a / b : Nat) : Int) := rfl
theorem vert_at {w h : Nat} {Z : List Int} {base : Int} {k : Nat} (hZ : Z.length = w * h) (hw : 2 ≤ w ∧ w ≤ 5) (hh : 2 ≤ h ∧ h ≤ 5) (hk : k < 2 * (w * h)) :
  gt (vertL (api_Grid.mk 7 (-5) 6 (w : Int) (h : Int) Z) base) (k : Int) = api_Spot.mk (pxI w (w * h) k) (pyI w (w * h) k) (hgtF Z base (cnZ (w * h) k)) := by
 rw [gt_nat]
 have hN : 0 < w * h := Nat.mul_pos (by omega) (by omega)
 have hv : (vertL (api_Grid.mk 7 (-5) 6 (w : Int) (h : Int) Z) base).getD k default = vertF (api_Grid.mk 7 (-5) 6 (w : Int) (h : Int) Z) base k := by
  have : k < (vertL (api_Grid.mk 7 (-5) 6 (w : Int) (h : Int) Z) base).length := by rw [vert_len]; show k < 2 * Z.length; omega
  simp only [List.getD, List.getElem?_eq_getElem this, Option.getD_some]
  simp [vertL]
 rw [hv]
 unfold vertF spotE
 dsimp only
 rw [hZ, tmod_nat, tdiv_nat]
 have h1 : (k % (w * h)) % w < w := Nat.mod_lt _ (by omega)
 have h2 : (k % (w * h)) / w < h := Nat.div_lt_of_lt_mul (Nat.mod_lt _ hN)
 generalize e1 : (k % (w * h)) % w = p at h1
 generalize e2 : (k % (w * h)) / w = q at h2
 rw [wrap64_in (n := (p : Int) * 6) (by omega) (by omega), wrap64_in (n := 7 + (p : Int) * 6) (by omega) (by omega), wrap64_in (n := (q : Int)) (by omega) (by omega), wrap64_in (n := (q : Int) * 6) (by omega) (by omega), wrap64_in (n := -5 + (q : Int) * 6) (by omega) (by omega)]
 have e3 : pxI w (w * h) k = 7 + (p : Int) * 6 := by unfold pxI; rw [e1]; omega
 have e4 : pyI w (w * h) k = -5 + (q : Int) * 6 := by unfold pyI; rw [e2]; omega
 rw [e3, e4]
 congr 1
 unfold hgtF cnZ
 by_cases hlt : k < w * h
 · rw [if_pos hlt, show Nat.blt k (w * h) = true by simpa [Nat.blt_eq] using hlt, cond_true, hZ, if_pos hlt, gt_nat]
 · have : Nat.blt k (w * h) = false := by
    cases hb : Nat.blt k (w * h) with
    | false => rfl
    | true => rw [Nat.blt_eq] at hb; exact absurd hb hlt
   rw [if_neg hlt, this, cond_false, hZ, if_neg (by omega)]
theorem px_bd {w h k : Nat} (hw : 2 ≤ w ∧ w ≤ 5) (hh : 2 ≤ h ∧ h ≤ 5) : (-32 ≤ pxI w (w * h) k ∧ pxI w (w * h) k ≤ 32) ∧ (-32 ≤ pyI w (w * h) k ∧ pyI w (w * h) k ≤ 32) := by
 have hN : 0 < w * h := Nat.mul_pos (by omega) (by omega)
 have h1 : (k % (w * h)) % w < w := Nat.mod_lt _ (by omega)
 have h2 : (k % (w * h)) / w < h := Nat.div_lt_of_lt_mul (Nat.mod_lt _ hN)
 unfold pxI pyI
 generalize (k % (w * h)) % w = p at h1 ⊢
 generalize (k % (w * h)) / w = q at h2 ⊢
 omega
theorem hgt_bd {Z : List Int} {base : Int} (hz : ∀ z ∈ Z, -128 ≤ z ∧ z ≤ 382) (hb : -128 ≤ base ∧ base ≤ 127) (m : Nat) : -400 ≤ hgtF Z base m ∧ hgtF Z base m ≤ 400 := by
 unfold hgtF
 split
 · rename_i h
   have := hz (Z.getD m default) (by simp only [List.getD, List.getElem?_eq_getElem h, Option.getD_some]; exact List.getElem_mem h)
   omega
 · omega
theorem foldE {D : List (A2 Int)} {t : A3 Int} : (D ++ eds t).foldl incE [] = incE (incE (incE (D.foldl incE []) (A2.mk t.e0 t.e1)) (A2.mk t.e1 t.e2)) (A2.mk t.e2 t.e0) := by rw [List.foldl_append]; rfl
theorem okT_iff {N : Nat} {t : A3 Int} (h : okT N t = true) : ∃ a b c : Nat, t = A3.mk (a : Int) (b : Int) (c : Int) ∧ a < 2 * N ∧ b < 2 * N ∧ c < 2 * N ∧ a ≠ b ∧ b ≠ c ∧ c ≠ a := by
 unfold okT at h
 simp only [Bool.and_eq_true, decide_eq_true_eq, Bool.not_eq_true', beq_eq_false_iff_ne] at h
 obtain ⟨x, y, z⟩ := t
 dsimp only at h
 exact ⟨x.toNat, y.toNat, z.toNat, by congr 1 <;> omega, by omega, by omega, by omega, by omega, by omega, by omega⟩
theorem tri_full {g : api_Grid} {w h : Nat} (hg : Gd g w h) (hz : ∀ z ∈ g.Z, -2147483648 < z) : triF g w h = triT (w : Int) (w - 1) (h - 1) := by
 unfold triF
 rw [hg.W, List.filter_eq_self]
 intro t ht
 obtain ⟨i0, i1, i2⟩ := tri_in hg (by rw [hg.W]; exact ht)
 have hne : ∀ i, inR i g.Z.length = true → (gt g.Z i != -2147483648) = true := by
  intro i hi
  have hi2 := inR_iff.1 hi
  obtain ⟨k, rfl⟩ : ∃ k : Nat, i = (k : Int) := ⟨i.toNat, by omega⟩
  have hk : k < g.Z.length := by omega
  have := hz (g.Z.getD k default) (by simp only [List.getD, List.getElem?_eq_getElem hk, Option.getD_some]; exact List.getElem_mem hk)
  rw [gt_nat]
  exact bne_iff_ne.2 (by omega)
 unfold hasZ
 rw [hne _ i0, hne _ i1, hne _ i2]; rfl
theorem getD_memA {t : A3 Int} {l : List (A3 Int)} {k : Nat} (h : k < l.length) : l.getD k default ∈ l := by simp only [List.getD, List.getElem?_eq_getElem h, Option.getD_some]; exact List.getElem_mem h
set_option maxHeartbeats 1000000 in
theorem solidS_v (heights : List Int) (width base : Int) (hl : heights.length ≤ maxLen) (hB : ∀ a ∈ heights, 0 ≤ a ∧ a ≤ 255) (hw : 0 ≤ width ∧ width ≤ 255) (hb : -128 ≤ base ∧ base ≤ 127) : fiduciallaw52_VolumeSolid 20000 heights width base = some true := by
 have hl : heights.length ≤ 9223372036854775807 := Nat.le_trans hl (by decide)
 obtain ⟨w, ew, hw2⟩ : ∃ w : Nat, wrapF .i64 (2 + (wrapF .i64 width).tmod 4) = (w : Int) ∧ 2 ≤ w ∧ w ≤ 5 := by
  obtain ⟨m, rfl⟩ : ∃ m : Nat, width = (m : Int) := ⟨width.toNat, by omega⟩
  refine ⟨2 + m % 4, ?_, by omega, by omega⟩
  rw [wrap64_in (n := (m : Int)) (by omega) (by omega), show ((m : Int)).tmod 4 = ((m % 4 : Nat) : Int) from tmod_nat (b := 4), wrap64_in (by omega) (by omega)]
  simp
 have hwb : wrapF .i64 base = base := wrap64_in (by omega) (by omega)
 apply Ok.eq
 unfold fiduciallaw52_VolumeSolid
 have hdl := Nat.div_le_self heights.length w
 rw [ew, tdiv_nat, hwb]
 generalize eh : heights.length / w = h at hdl ⊢
 rw [wrap64_in (n := (h : Int)) (by omega) (by omega)]
 refine Ok.bde known52_v (Ok.cd (fun h => by cases h) (fun _ => Ok.gd (by simp; omega) (Ok.cd (fun _ => ok_some.2 rfl) (fun h1 => Ok.cd (fun _ => ok_some.2 rfl) (fun h2 => ?_)))))
 have hh : 2 ≤ h ∧ h ≤ 5 := by
  have h1 := of_decide_eq_false h1
  have h2 := of_decide_eq_false h2
  omega
 have hwh : w * h ≤ heights.length := by rw [← eh]; exact Nat.mul_div_le _ _
 have h25 : w * h ≤ 25 := Nat.mul_le_mul hw2.2 hh.2
 have h4 : 4 ≤ w * h := Nat.mul_le_mul hw2.1 hh.1
 have ewh : wrapF .i64 ((w : Int) * (h : Int)) = ((w * h : Nat) : Int) := by rw [← Int.natCast_mul]; exact wrap64_in (by omega) (by omega)
 rw [ewh]
 refine Ok.bd (R := fun o => o = (heights.take (w * h)).map (base + ·)) ?_ ?_
 · refine ok_rangeR (len := w * h) (fun k c => c = (heights.take k).map (base + ·)) (by omega) (by omega) rfl ?_ ?_
   · rintro again k c hk rfl ih
     have hk2 : k < heights.length := by omega
     have hv := hB (heights.getD k default) (by simp only [List.getD, List.getElem?_eq_getElem hk2, Option.getD_some]; exact List.getElem_mem hk2)
     have hlen : ((heights.take k).map (base + ·)).length ≤ 25 := by rw [List.length_map, List.length_take]; omega
     refine Ok.cd (fun _ => ?_) (fun h => by have := of_decide_eq_false h; omega)
     refine Ok.gd (by rw [inR_nat]; exact decide_eq_true hk2) (Ok.gd (decide_eq_true (by omega)) (Ok.gd (decide_eq_true (by omega)) (ih _ ?_)))
     rw [gt_nat, wrap64_in (n := heights.getD k default) (by omega) (by omega), wrap64_in (by omega) (by omega), List.take_add_one, List.getElem?_eq_getElem hk2, List.map_append]
     simp [List.getD, List.getElem?_eq_getElem hk2]
   · rintro again c rfl
     exact Ok.cd (fun h => by have := of_decide_eq_true h; omega) (fun _ => ok_some.2 rfl)
 rintro Z eZ
 have hZl : Z.length = w * h := by rw [eZ, List.length_map, List.length_take]; omega
 have hz : ∀ z ∈ Z, base ≤ z ∧ z ≤ base + 255 := by
  intro z hm
  rw [eZ] at hm
  obtain ⟨a, ha, rfl⟩ := List.mem_map.1 hm
  have := hB a (List.mem_of_mem_take ha)
  omega
 clear eZ
 have far0 : ∀ z : Int, -1000 ≤ z ∧ z ≤ 1000 → farE z = false := fun z h => far_bd.2 (by omega)
 have hd : Dim (api_Grid.mk 7 (-5) 6 (w : Int) (h : Int) Z) := ⟨by dsimp only; omega, by dsimp only; omega, by dsimp only; omega, by dsimp only; rfl, far0 7 (by omega), far0 (-5) (by omega)⟩
 have hg : Gd (api_Grid.mk 7 (-5) 6 (w : Int) (h : Int) Z) w h := ⟨hd, rfl, rfl, by omega, by omega, hZl⟩
 have hc : gcode (api_Grid.mk 7 (-5) 6 (w : Int) (h : Int) Z) = 0 := by
  unfold gcode
  rw [if_pos hd]
  dsimp only
  rw [if_pos (by rw [hZl, Int.natCast_mul]), if_neg]
  rw [Bool.not_eq_true, List.any_eq_false]
  intro z hm
  have := hz z hm
  unfold badZ
  rw [far0 z (by omega)]
  simp
 have hfb : farE base = false := far0 _ (by omega)
 refine Ok.bde (solid_v hg hc (by dsimp only; omega) (fun z hm => ⟨(hz z hm).1, by have := hz z hm; omega⟩) hfb) ?_
 obtain ⟨v, hv, v1, v2⟩ := lvl_val hc hg (by dsimp only; omega) hfb
 refine Ok.bde (by rw [level_v hc hg hfb, hv]; rfl) (Ok.cd (fun h => by cases h) (fun _ => Ok.cd (fun h => by cases h) (fun _ => ?_)))
 rw [tri_full hg (fun z hm => by have := hz z hm; omega)] at v1 v2
 dsimp only at v1 v2
 have hup : ∀ t ∈ triT (w : Int) (w - 1) (h - 1), (0 ≤ gt Z t.e0 - base ∧ 0 ≤ gt Z t.e1 - base ∧ 0 ≤ gt Z t.e2 - base) ∧ upF (w * h) (hgtF Z base) t = 36 * ((gt Z t.e0 - base) + (gt Z t.e1 - base) + (gt Z t.e2 - base)) := by
  intro t ht
  obtain ⟨i0, i1, i2⟩ := tri_in hg ht
  have at0 : ∀ i, inR i Z.length = true → 0 ≤ gt Z i - base ∧ hgtF Z base i.toNat = gt Z i := by
   intro i hi
   have hi2 := inR_iff.1 hi
   obtain ⟨k, rfl⟩ : ∃ k : Nat, i = (k : Int) := ⟨i.toNat, by omega⟩
   have hk : k < Z.length := by omega
   have := hz (Z.getD k default) (by simp only [List.getD, List.getElem?_eq_getElem hk, Option.getD_some]; exact List.getElem_mem hk)
   rw [gt_nat]
   refine ⟨by omega, ?_⟩
   unfold hgtF
   rw [Int.toNat_natCast, if_pos hk]
  have hN : hgtF Z base (w * h) = base := by unfold hgtF; rw [if_neg (by omega)]
  have a := at0 _ i0; have b := at0 _ i1; have c := at0 _ i2
  refine ⟨⟨a.1, b.1, c.1⟩, ?_⟩
  unfold upF
  rw [a.2, b.2, c.2, hN]
 obtain ⟨q1, q2⟩ := sumQ_up (hh := fun k => gt Z k - base) _ hup
 rw [q2] at v2
 refine Ok.bde (R.qSign_ok (by omega) (by omega) v2) ?_
 have hs0 : sgn (areaQ 6 * 0 : Rat).num = 0 := by rw [Rat.mul_zero]; rfl
 rw [hs0]
 refine Ok.cd (fun h => by cases h) (fun _ => ?_)
 obtain ⟨fo, fl, fc⟩ := faces_ok hw2 hh
 have hdet := dets_up hw2 hh (hgtF Z base)
 have hVl : (vertL (api_Grid.mk 7 (-5) 6 (w : Int) (h : Int) Z) base).length = 2 * (w * h) := by rw [vert_len]; dsimp only; rw [hZl]
 have hF := fun t => det_bd (w := w) (h := h) (f := hgtF Z base) (fun k => px_bd hw2 hh) (hgt_bd (fun z hm => by have := hz z hm; omega) hb) t
 generalize eF : facesL w h = F at *
 refine Ok.bd (R := fun o => o = Sum.inl ((F.flatMap eds).foldl incE [], sI (F.map (detF w (w * h) (hgtF Z base))))) ?_ ?_
 · refine ok_rangeG (γ := List (A2 Int × Int) × Int) (fun c x => (c.1, c.2, x)) (fun k c => c = (((F.take k).flatMap eds).foldl incE [], sI ((F.take k).map (detF w (w * h) (hgtF Z base))))) (len := F.length) (by omega) (by omega) (c0 := ([], 0)) (by simp [sI]) ?_ ?_
   · rintro again k c hk rfl ih
     obtain ⟨a, b, c, et, ha, hb2, hc2, n1, n2, n3⟩ := okT_iff (fo _ (getD_memA (t := default) hk))
     dsimp only
     rw [gt_nat, et, hVl]
     dsimp only
     refine Ok.cd (fun _ => ?_) (fun h => by have := of_decide_eq_false h; omega)
     refine Ok.gd (by rw [inR_nat]; exact decide_eq_true hk) ?_
     refine Ok.cd (fun h => by have := of_decide_eq_true h; omega) (fun _ => Ok.cd (fun h => by have := of_decide_eq_true h; omega) (fun _ => Ok.cd (fun h => by have := eq_of_beq h; omega) (fun _ => ?_)))
     refine Ok.cd (fun h => by have := of_decide_eq_true h; omega) (fun _ => Ok.cd (fun h => by have := of_decide_eq_true h; omega) (fun _ => Ok.cd (fun h => by have := eq_of_beq h; omega) (fun _ => ?_)))
     refine Ok.cd (fun h => by have := of_decide_eq_true h; omega) (fun _ => Ok.cd (fun h => by have := of_decide_eq_true h; omega) (fun _ => Ok.cd (fun h => by have := eq_of_beq h; omega) (fun _ => ?_)))
     refine Ok.gd (by rw [inR_nat]; exact decide_eq_true ha) (Ok.gd (by rw [inR_nat]; exact decide_eq_true hb2) (Ok.gd (by rw [inR_nat]; exact decide_eq_true hc2) ?_))
     rw [vert_at hZl hw2 hh ha, vert_at hZl hw2 hh hb2, vert_at hZl hw2 hh hc2]
     have b1 := px_bd (k := a) hw2 hh; have b2 := px_bd (k := b) hw2 hh; have b3 := px_bd (k := c) hw2 hh
     have z1 := hgt_bd (base := base) (Z := Z) (fun z hm => by have := hz z hm; omega) hb (cnZ (w * h) a)
     have z2 := hgt_bd (base := base) (Z := Z) (fun z hm => by have := hz z hm; omega) hb (cnZ (w * h) b)
     have z3 := hgt_bd (base := base) (Z := Z) (fun z hm => by have := hz z hm; omega) hb (cnZ (w * h) c)
     obtain ⟨d1, d2⟩ := detW_eq b1.1 b1.2 z1 b2.1 b2.2 z2 b3.1 b3.2 z3
     dsimp only
     rw [d1]
     have hsb := sI_bd (f := detF w (w * h) (hgtF Z base)) (B := 3000000) (by omega) (F.take k) (fun t _ => hF t)
     rw [List.length_take] at hsb
     rw [wrap64_in (n := sI ((F.take k).map (detF w (w * h) (hgtF Z base))) + det3 _ _ _ _ _ _ _ _ _) (by omega) (by omega)]
     refine ih (_, _) ?_
     rw [flat_takeB _ hk, sI_take hk, et, foldE]
     rfl
   · rintro again c rfl
     exact Ok.cd (fun h => by simp at h) (fun _ => ok_some.2 (by rw [List.take_length]))
 rintro o rfl
 dsimp only
 refine ⟨true, rngM_of fun p hp => ?_, rfl⟩
 rw [foldO_false p fun e he => ?_]
 · have hsb := sI_bd (f := detF w (w * h) (hgtF Z base)) (B := 3000000) (by omega) F (fun t _ => hF t)
   show bdO (fiducialref02_Of 20000 _ 6) _ = _
   apply Ok.eq
   refine Ok.bd (R.qOf_ok (by omega) (by omega) (by omega) (by omega) (by omega) (by omega)) fun x hx => ?_
   obtain ⟨hx, _⟩ := hx
   have hx : Qx x.1 _ 3 := hx
   refine Ok.cd (fun _ => ?_) (fun h => by cases h)
   refine Ok.bde ?_ (ok_some.2 rfl)
   unfold fiducialref02_SameRat
   have e : Rat.divInt (sI (F.map (detF w (w * h) (hgtF Z base)))) 6 = areaQ 6 * sumQ ((triT (w : Int) (w - 1) (h - 1)).map (xh fun k => gt Z k - base)) := by
    rw [q1, hdet, Rat.divInt_eq_div]
    have : areaQ 6 = 18 := by unfold areaQ; rfl
    rw [this]
    grind
   rw [e] at hx
   rw [R.qSame_ok (by omega) (by omega) hx v1]; rfl
 · have := fc e (hp.mem_iff.1 he)
   show some ((getM 0 ((F.flatMap eds).foldl incE []) (A2.mk e.1.e1 e.1.e0) : Int) != e.2) = some false
   rw [this, bne_self_eq_false]
theorem u8_of {a : Int} (h : (Lit.int .u8 a).wf = true) : 0 ≤ a ∧ a ≤ 255 := by
 simp [Lit.wf, IntKind.min, IntKind.max, IntKind.signed, IntKind.bits] at h
 exact h
theorem i8_of {a : Int} (h : (Lit.int .i8 a).wf = true) : -128 ≤ a ∧ a ≤ 127 := by
 simp [Lit.wf, IntKind.min, IntKind.max, IntKind.signed, IntKind.bits] at h
 exact h
end Go.L

