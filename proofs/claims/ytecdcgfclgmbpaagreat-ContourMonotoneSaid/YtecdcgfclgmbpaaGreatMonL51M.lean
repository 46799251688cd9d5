import Derived.Test.YtecdcgfclgmbpaaGreatMonL51n
import Derived.Test.YtecdcgfclgmbpaaGreatMonL51n
set_option linter.all false
namespace Go.L
open Go Go.Eng
def Be1 (r : Rat) : Prop := ∃ p q : Int, r = Rat.divInt p q /\ 0 < q /\ q <= 1000000000000000000000 /\ -10000000000000000000000000000 <= p /\ p <= 10000000000000000000000000000
def Be (r : Rat) (i : Nat) : Prop := ∃ p q : Int, r = Rat.divInt p q /\ 0 < q /\ q <= 1000000000000000000000 ^ i /\ -(i * 10000000 * 1000000000000000000000 ^ i) <= p /\ p <= i * 10000000 * 1000000000000000000000 ^ i
theorem CY : Be 0 0 := ⟨0, 1, by rw [jX]; rfl, by omega, by simp, by simp, by simp⟩
theorem Be.add {r s : Rat} {i : Nat} (h : Be r i) (k : Be1 s) : Be (r + s) (i + 1) := by
 obtain ⟨p, q, h1, h2, h3, h4, h5⟩ := h
 obtain ⟨u, v, k1, k2, k3, k4, k5⟩ := k
 have hB : (0 : Int) < 1000000000000000000000 ^ i := Int.pow_pos (by omega)
 refine ⟨p * v + u * q, q * v, ?_, Int.mul_pos h2 k2, ?_, ?_, ?_⟩
 · rw [h1, k1, Rat.divInt_add_divInt _ _ (by omega) (by omega)]
 · rw [Int.pow_succ]; exact Int.mul_le_mul h3 k3 (by omega) (by omega)
 all_goals
  rw [Int.pow_succ]
  push_cast
  generalize (1000000000000000000000 : Int) ^ i = P at *
  generalize hI : (i : Int) * 10000000 = I at *
  have hI0 : 0 <= I := by omega
  have e : ((i : Int) + 1) * 10000000 * (P * 1000000000000000000000) = I * P * 1000000000000000000000 + 10000000 * (P * 1000000000000000000000) := by rw [Int.add_mul, hI, Int.add_mul, Int.one_mul, Int.mul_assoc]
  have hIP : 0 <= I * P := Int.mul_nonneg hI0 (by omega)
  have m1 : p * v <= I * P * v := mrT h5 (by omega)
  have m2 : I * P * v <= I * P * 1000000000000000000000 := mlT k3 hIP
  have m3 : u * q <= 10000000000000000000000000000 * q := mrT k5 (by omega)
  have n1 : -(I * P) * v <= p * v := mrT h4 (by omega)
  rw [Int.neg_mul] at n1
  have n3 : -10000000000000000000000000000 * q <= u * q := mrT k4 (by omega)
  rw [e]
  generalize I * P * v = T1 at *
  generalize I * P * 1000000000000000000000 = T2 at *
  generalize p * v = T3 at *
  generalize u * q = T4 at *
  omega
theorem zd {i : Nat} (h : i <= 56) : (1000000000000000000000 : Int) ^ i <= 1000000000000000000000 ^ 56 := by
 obtain ⟨j, hj⟩ : ∃ j, 56 = i + j := ⟨56 - i, by omega⟩
 rw [show (1000000000000000000000 : Int) ^ 56 = 1000000000000000000000 ^ i * 1000000000000000000000 ^ j by rw [<- Int.pow_add, <- hj]]
 have h1 : (1 : Int) <= 1000000000000000000000 ^ j := Int.pow_pos (by omega)
 have h2 : (0 : Int) < 1000000000000000000000 ^ i := Int.pow_pos (by omega)
 have := mlT h1 (Int.le_of_lt h2)
 omega
theorem E2 : (4294967296 : Int) * (560000000 * 1000000000000000000000 ^ 56) < pB 133 := dcT (by kernel_rfl)
theorem Be.Eh {nn dn : Bool} {ng dg : List Int} {r : Rat} {i j : Nat} {s : Int} (hs : 0 <= s /\ s <= 4294967296) (h : Be r i) (hi : i <= 56) (q : QL nn ng dn dg (Rat.divInt s 2 * r) j) : QL nn ng dn dg (Rat.divInt s 2 * r) 133 := by
 obtain ⟨p, d, h1, h2, h3, h4, h5⟩ := h
 have hp := zd hi
 have hb := E2
 have h0 : (0 : Int) < 1000000000000000000000 ^ i := Int.pow_pos (by omega)
 have hm : (i : Int) * 10000000 * 1000000000000000000000 ^ i <= 560000000 * 1000000000000000000000 ^ 56 := Int.mul_le_mul (by omega) hp (by omega) (by omega)
 generalize (i : Int) * 10000000 * 1000000000000000000000 ^ i = M at *
 generalize (1000000000000000000000 : Int) ^ i = P at *
 generalize (1000000000000000000000 : Int) ^ 56 = R at *
 have k1 : s * p <= s * (560000000 * R) := mlT (by omega) hs.1
 have k2 : s * (-(560000000 * R)) <= s * p := mlT (by omega) hs.1
 have k3 : s * (560000000 * R) <= 4294967296 * (560000000 * R) := mrT hs.2 (by omega)
 rw [Int.mul_neg] at k2
 exact QL.tight q (p := s * p) (q := 2 * d) (by rw [h1, Rat.divInt_mul_divInt]) (by omega) (by omega) (by omega) (by omega)
theorem A7 {p : A3 Int -> Rat} : ∀ l : List (A3 Int), (∀ t ∈ l, Be1 (p t)) -> Be (iv (l.map p)) l.length
 | [], _ => CY
 | t :: l, h => by
  have := (A7 l fun x hx => h x (List.mem_cons_of_mem _ hx)).add (h t (by simp))
  show Be (p t + iv (l.map p)) (l.length + 1)
  rw [Rat.add_comm]; exact this
def eD (x : Int) : Int := if x = 0 then 1 else (x.natAbs : Int)
def inD (x : Int) : Prop := -4194304 <= x /\ x <= 4194304
theorem wK {x : Int} (h : inD x) : 0 < eD x /\ eD x <= 4194304 := by
 obtain ⟨h1, h2⟩ := h
 unfold eD; split <;> omega
theorem DC {x y : Int} (h : 0 < x * y) : x * y = eD x * eD (-y) := by
 have hx : x ≠ 0 := by rintro rfl; simp at h
 have hy : y ≠ 0 := by rintro rfl; simp at h
 unfold eD
 rw [if_neg hx, if_neg (by omega), Int.natAbs_neg, <- Int.natCast_mul, <- Int.natAbs_mul]
 omega
def PD (A B C : Int) : Int := 6 * (eD (A - B) * (eD (B - C) * eD (C - A)))
theorem DP (A B C : Int) : PD B C A = PD A B C := by unfold PD; grind
theorem Dl {A B C : Int} (h1 : inD (A - B)) (h2 : inD (B - C)) (h3 : inD (C - A)) : 0 < PD A B C /\ PD A B C <= 1000000000000000000000 := by
 have a := wK h1; have b := wK h2; have c := wK h3
 unfold PD
 generalize eD (A - B) = x at *
 generalize eD (B - C) = y at *
 generalize eD (C - A) = z at *
 have k1 := Int.mul_pos b.1 c.1
 have k2 := Int.mul_le_mul b.2 c.2 (by omega) (by omega)
 have k3 := Int.mul_pos a.1 k1
 have k4 := Int.mul_le_mul a.2 k2 (by omega) (by omega)
 omega
def DvP (A B C : Int) (r : Rat) : Prop := ∃ N : Int, r = Rat.divInt N (PD A B C) /\ -3000000000000000000000000000 <= N /\ N <= 3000000000000000000000000000
theorem DvP.rot {A B C : Int} {r : Rat} (h : DvP B C A r) : DvP A B C r := by unfold DvP at *; rw [DP] at h; exact h
theorem tJ {A B C : Int} (hA : inH A) (hB : inH B) (hC : inH C) (d1 : inD (A - B)) (d2 : inD (B - C)) (d3 : inD (C - A)) (h : 0 < (A - B) * (A - C)) : DvP A B C (gk (h2 A) (h2 B) (h2 C)) /\ DvP A B C (cL (h2 A) (h2 B) (h2 C) - gk (h2 A) (h2 B) (h2 C)) := by
 obtain ⟨dd, n1, n2⟩ := zu hA hB hC h
 have hb := uo n1; have hc := uo n2
 have qA := hA.2; have qB := hB.2; have qC := hC.2
 have e := DC h
 rw [show -(A - C) = C - A by omega] at e
 have ea := wK d1; have ec := wK d3; have eb := wK d2
 have D := Int.mul_le_mul ea.2 ec.2 (by omega) (by omega)
 have eP : PD A B C = 6 * ((A - B) * (A - C)) * eD (B - C) := by unfold PD; rw [e]; grind
 have a2 := jt (a := A) (b := A) (A := 4194305) (B := 4194305) (by omega) (by omega) (by omega) (by omega)
 have a3 := jt (a := A) (b := A * A) (A := 4194305) (B := 17592194433025) (by omega) (by omega) (by omega) (by omega)
 have s1 := jt (a := A + (B + C)) (b := (A - B) * (A - C)) (A := 12582915) (B := 17592186044416) (by omega) (by omega) (by omega) (by omega)
 have m1 := jt (a := A * (A * A)) (b := eD (B - C)) (A := 73787029078449012626) (B := 4194304) (by omega) (by omega) (by omega) (by omega)
 have m2 := jt (a := (A + (B + C)) * ((A - B) * (A - C)) - A * (A * A)) (b := eD (B - C)) (A := 300000000000000000000) (B := 4194304) (by omega) (by omega) (by omega) (by omega)
 have hk : eD (B - C) ≠ 0 := by omega
 refine ⟨⟨A * (A * A) * eD (B - C), ?_, by omega, by omega⟩, ⟨((A + (B + C)) * ((A - B) * (A - C)) - A * (A * A)) * eD (B - C), ?_, by omega, by omega⟩⟩
 all_goals
  rw [eP, Rat.divInt_mul_right hk, Rat.divInt_eq_div, kW, kW, kW]; unfold gk; try unfold cL
  push_cast; grind
theorem Dy {A B C : Int} (hA : inH A) (hB : inH B) (hC : inH C) (d1 : inD (A - B)) (d2 : inD (B - C)) (d3 : inD (C - A)) : DvP A B C (cL (h2 A) (h2 B) (h2 C)) := by
 have qA := hA.2; have qB := hB.2; have qC := hC.2
 have hp := Dl d1 d2 d3
 unfold DvP
 unfold PD at *
 generalize eD (A - B) * (eD (B - C) * eD (C - A)) = P at *
 have m := jt (a := A + (B + C)) (b := P) (A := 12582915) (B := 166666666666666666667) (by omega) (by omega) (by omega) (by omega)
 refine ⟨(A + (B + C)) * P, ?_, by omega, by omega⟩
 rw [Rat.divInt_mul_right (by omega), Rat.divInt_eq_div, kW, kW, kW]; unfold cL; push_cast; grind
theorem Dm {A B C : Int} (hA : inH A) (hB : inH B) (hC : inH C) (d1 : inD (A - B)) (d2 : inD (B - C)) (d3 : inD (C - A)) : DvP A B C (ptQ gk cL A B C) := by
 unfold ptQ ib
 by_cases a : 0 < A <;> by_cases b : 0 < B <;> by_cases c : 0 < C <;> simp only [qR, a, b, c, if_true, if_false]
 · exact Dy hA hB hC d1 d2 d3
 · have := (tJ hC hA hB d3 d1 d2 (jh hC hA hB (by simp [a, c]) (by simp [b, c]))).2.rot.rot
   rw [mF, mF] at this
   rw [<- mF, <- mF] at this
   rw [mF, mF] at this
   exact this
 · have := (tJ hB hC hA d2 d3 d1 (jh hB hC hA (by simp [b, c]) (by simp [a, b]))).2.rot
   rw [mF] at this; exact this
 · exact (tJ hA hB hC d1 d2 d3 (jh hA hB hC (by simp [a, b]) (by simp [a, c]))).1
 · exact (tJ hA hB hC d1 d2 d3 (jh hA hB hC (by simp [a, b]) (by simp [a, c]))).2
 · exact (tJ hB hC hA d2 d3 d1 (jh hB hC hA (by simp [b, c]) (by simp [a, b]))).1.rot
 · exact (tJ hC hA hB d3 d1 d2 (jh hC hA hB (by simp [a, c]) (by simp [b, c]))).1.rot.rot
 · exact ⟨0, by rw [Rat.zero_divInt], by omega, by omega⟩
theorem Du {A B C k : Int} (hA : inH A) (hB : inH B) (hC : inH C) (kA : inH (A - k)) (kB : inH (B - k)) (kC : inH (C - k)) (d1 : inD (A - B)) (d2 : inD (B - C)) (d3 : inD (C - A)) : Be1 (ptQ gk cL A B C - ptQ gk cL (A - k) (B - k) (C - k)) := by
 have e : ∀ x y : Int, x - k - (y - k) = x - y := fun x y => by omega
 obtain ⟨N, e1, n1, n2⟩ := Dm hA hB hC d1 d2 d3
 obtain ⟨M, e2, m1, m2⟩ := Dm kA kB kC (by rw [e]; exact d1) (by rw [e]; exact d2) (by rw [e]; exact d3)
 have hp := Dl d1 d2 d3
 have eP : PD (A - k) (B - k) (C - k) = PD A B C := by unfold PD; rw [e, e, e]
 refine ⟨N - M, PD A B C, ?_, hp.1, hp.2, by omega, by omega⟩
 rw [e1, e2, eP, Rat.divInt_eq_div, Rat.divInt_eq_div, Rat.divInt_eq_div]; push_cast; grind
end Go.L


set_option linter.all false
namespace Go.L
open Go Go.Eng
theorem zh (A k : Int) : h2 (A - k) = h2 A - h2 k := by rw [kW, kW, kW]; push_cast; grind
theorem CR : h2 0 = 0 := by rw [kW]; show ((0 : Int) : Rat) / 2 = 0; rw [Rat.intCast_zero]; grind
theorem Ay {k : Int} (h : 0 <= k) : 0 <= h2 k := by
 by_cases h0 : k = 0
 · subst h0; rw [CR]; grind
 · exact Rat.le_of_lt (qR.2 (by omega))
theorem pG (Z : List Int) (lo hi k : Int) : hgt Z hi k = hgt Z lo k - (hi - lo) := by unfold hgt; omega
theorem zD {Z : List Int} {lo hi : Int} (h : lo <= hi) (t : A3 Int) : h2 (hi - lo) * ptG shQ (fun _ _ _ => 1) Z hi t <= ptG gk cL Z lo t - ptG gk cL Z hi t /\ ptG gk cL Z lo t - ptG gk cL Z hi t <= h2 (hi - lo) * ptG shQ (fun _ _ _ => 1) Z lo t := by
 unfold ptG ptQ
 rw [pG Z lo hi t.e0, pG Z lo hi t.e1, pG Z lo hi t.e2, zh (hgt Z lo t.e0), zh (hgt Z lo t.e1), zh (hgt Z lo t.e2)]
 exact DT _ _ _ (Ay (by omega))
theorem Dx {Z : List Int} {lo hi : Int} (h : lo <= hi) (t : A3 Int) : ptG shQ (fun _ _ _ => 1) Z hi t <= ptG shQ (fun _ _ _ => 1) Z lo t := by
 by_cases e : lo = hi
 · subst e; grind
 · have := zD (Z := Z) h t
   exact w9 (qR.2 (show 0 < hi - lo by omega)) (Rat.le_trans this.1 this.2)
theorem B1 {t : Rat} {p p' q q' : A3 Int -> Rat} : ∀ l : List (A3 Int), (∀ x ∈ l, t * p' x <= q x - q' x /\ q x - q' x <= t * p x /\ p' x <= p x) -> (t * iv (l.map p') <= iv (l.map fun x => q x - q' x) /\ iv (l.map fun x => q x - q' x) <= t * iv (l.map p)) /\ iv (l.map p') <= iv (l.map p) /\ iv (l.map q) - iv (l.map q') = iv (l.map fun x => q x - q' x)
 | [], _ => by
  show (t * 0 <= 0 /\ 0 <= t * 0) /\ (0 : Rat) <= 0 /\ (0 : Rat) - 0 = 0
  exact ⟨⟨by grind, by grind⟩, by grind, by grind⟩
 | x :: l, h => by
  obtain ⟨⟨i1, i2⟩, i3, i4⟩ := B1 (t := t) (p := p) (p' := p') (q := q) (q' := q') l fun y hy => h y (List.mem_cons_of_mem _ hy)
  obtain ⟨j1, j2, j3⟩ := h x (by simp)
  show (t * (p' x + iv (l.map p')) <= q x - q' x + iv (l.map fun x => q x - q' x) /\ q x - q' x + iv (l.map fun x => q x - q' x) <= t * (p x + iv (l.map p))) /\ p' x + iv (l.map p') <= p x + iv (l.map p) /\ q x + iv (l.map q) - (q' x + iv (l.map q')) = q x - q' x + iv (l.map fun x => q x - q' x)
  exact ⟨⟨by grind, by grind⟩, by grind, by grind⟩
theorem zn {g : al} {w h : Nat} (hg : Gd g w h) : 0 <= arQ g := Rat.divInt_nonneg (vc hg).1 (by omega)
theorem BI (g : al) (levels : A2 Int) : cX 20000 g levels = some true := by
 apply Ok.eq
 unfold cX
 have hle : mn levels.e0 levels.e1 <= mx levels.e0 levels.e1 := by unfold mn mx; split <;> split <;> omega
 generalize mn levels.e0 levels.e1 = lo at *
 generalize mx levels.e0 levels.e1 = hi at *
 refine Ok.bde AM (Ok.cd (fun h => by cases h) (fun _ => ?_))
 refine Ok.bde (b := decide ((g.Z.length : Int) <= 40)) rfl (Ok.cd (fun _ => az.2 rfl) (fun h4 => ?_))
 have h40 : g.Z.length <= 40 := by
  have : (g.Z.length : Int) <= 40 := by simpa using h4
  omega
 refine Ok.bde (xa g lo) (Ok.cd (fun _ => az.2 rfl) (fun h0 => Ok.bde (xa g hi) (Ok.cd (fun _ => az.2 rfl) (fun h1 => ?_))))
 have h0 : yF (nZ g) lo = 0 := by simpa using h0
 have h1 : yF (nZ g) hi = 0 := by simpa using h1
 obtain ⟨hg0, l0⟩ := yN h0
 obtain ⟨-, l1⟩ := yN h1
 obtain ⟨w, h, hg⟩ := ER hg0
 obtain ⟨-, -, hb⟩ := Al hg0
 obtain ⟨a, ea, ha⟩ := yD hg hb h40 l0
 obtain ⟨b, eb, hb1⟩ := yD hg hb h40 l1
 obtain ⟨v, ev, hv⟩ := wM hg hb h40 l0
 obtain ⟨x, ex, hx⟩ := wM hg hb h40 l1
 have e1 : ft 20000 g lo = some (a, 0) := by unfold ft; rw [xI, h0, ea]; rfl
 have e2 : ft 20000 g hi = some (b, 0) := by unfold ft; rw [xI, h1, eb]; rfl
 have e3 : fy 20000 g lo = some (v, 0) := by unfold fy; rw [xI, h0, ev]; rfl
 have e4 : fy 20000 g hi = some (x, 0) := by unfold fy; rw [xI, h1, ex]; rfl
 refine Ok.bde e1 (Ok.bde e2 (Ok.bde e3 (Ok.bde e4 ?_)))
 refine Ok.cd (fun k => nomatch (show false = true from k)) (fun _ => ?_)
 have q0 := l0.2; have q1 := l1.2
 rw [wrap64_in (n := hi - lo) (by omega) (by omega)]
 refine Ok.bd (R.vY (by omega) (by omega) (by omega) (by omega) (by omega) (by omega)) ?_
 rintro s ⟨hs, -⟩
 change R.Qx s.1 (h2 (hi - lo)) 3 at hs
 have h56 := BQ hg.w1.1 hg.h1.1 (by rw [<- hg.m]; exact h40)
 have hlen : (n5 g w h).length <= 56 := Nat.le_trans CJ h56
 obtain ⟨⟨s1, s2⟩, s3, s4⟩ := B1 (t := h2 (hi - lo)) (p := ptG shQ (fun _ _ _ => 1) g.Z lo) (p' := ptG shQ (fun _ _ _ => 1) g.Z hi) (q := ptG gk cL g.Z lo) (q' := ptG gk cL g.Z hi) (n5 g w h) fun t _ => ⟨(zD hle t).1, (zD hle t).2, Dx hle t⟩
 have hbe : Be (iv ((n5 g w h).map fun t => ptG gk cL g.Z lo t - ptG gk cL g.Z hi t)) (n5 g w h).length := A7 _ fun t ht => by
  obtain ⟨-, z0, z1, z2⟩ := zin hb hg ht
  have n0 := pM z0 l0; have n1 := pM z1 l0; have n2 := pM z2 l0
  have m0 := pM z0 l1; have m1 := pM z1 l1; have m2 := pM z2 l1
  rw [pG g.Z lo hi] at m0 m1 m2
  unfold ptG
  rw [pG g.Z lo hi t.e0, pG g.Z lo hi t.e1, pG g.Z lo hi t.e2]
  have dd : ∀ {i j : Int}, okZ (gt g.Z i) -> okZ (gt g.Z j) -> inD (hgt g.Z lo i - hgt g.Z lo j) := by
   rintro i j ⟨a1, a2⟩ ⟨b1, b2⟩
   unfold hgt; exact ⟨by omega, by omega⟩
  exact Du n0 n1 n2 m0 m1 m2 (dd z0 z1) (dd z1 z2) (dd z2 z0)
 have ar := zn hg
 have hq := vc hg
 have ta : zl shQ (fun _ _ _ => 1) g w h lo = iv ((n5 g w h).map (ptG shQ (fun _ _ _ => 1) g.Z lo)) * arQ g := rfl
 have tb : zl shQ (fun _ _ _ => 1) g w h hi = iv ((n5 g w h).map (ptG shQ (fun _ _ _ => 1) g.Z hi)) * arQ g := rfl
 have td : zl gk cL g w h lo - zl gk cL g w h hi = arQ g * iv ((n5 g w h).map fun t => ptG gk cL g.Z lo t - ptG gk cL g.Z hi t) := by
  rw [<- s4]; unfold zl; grind
 refine Ok.bd (R.p7 (by omega) (by omega) hv hx) fun d hd => ?_
 rw [td] at hd
 have hd2 : R.Qx d (arQ g * iv ((n5 g w h).map fun t => ptG gk cL g.Z lo t - ptG gk cL g.Z hi t)) 133 := Be.Eh hq hbe (by omega) hd
 clear hd
 rw [ta] at ha; rw [tb] at hb1
 generalize iv ((n5 g w h).map fun t => ptG gk cL g.Z lo t - ptG gk cL g.Z hi t) = D at *
 generalize iv ((n5 g w h).map (ptG shQ (fun _ _ _ => 1) g.Z lo)) = SA at *
 generalize iv ((n5 g w h).map (ptG shQ (fun _ _ _ => 1) g.Z hi)) = SB at *
 change R.Qx a _ 98 at ha
 change R.Qx b _ 98 at hb1
 generalize arQ g = r at *
 generalize h2 (hi - lo) = t at *
 have p1 := Rat.mul_nonneg ar (show 0 <= SA - SB by grind)
 have p2 := Rat.mul_nonneg ar (show 0 <= D - t * SB by grind)
 have p3 := Rat.mul_nonneg ar (show 0 <= t * SA - D by grind)
 refine Ok.bde (R.qH (by omega) (by omega) hb1 ha) (Ok.cd (fun _ => ?_) (fun k => absurd (AY.2 (by grind)) (dcF k)))
 refine Ok.bd (R.og (by omega) (by omega) hs hb1) fun y hy => ?_
 refine Ok.bde (R.qH (by omega) (by omega) hy hd2) (Ok.cd (fun _ => ?_) (fun k => absurd (AY.2 (by grind)) (dcF k)))
 refine Ok.bd (R.og (by omega) (by omega) hs ha) fun z hz => ?_
 exact Ok.bde (R.qH (by omega) (by omega) hd2 hz) (az.2 (decide_eq_true (AY.2 (by grind))))
end Go.L

