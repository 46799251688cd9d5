import Derived.Test.YtlpfiiejhikalaaGreatTrkLD
import Derived.Test.YtlpfiiejhikalaaGreatPl2Trks
set_option linter.all false
namespace Go.L
open Go Go.Eng
structure jZ (r : ak) (w h : Nat) : Prop where
 wd : r.Width = w
 ht : r.Height = h
 w1 : 1 <= w
 w9 : w <= 9
 h1 : 1 <= h
 h9 : h <= 9
 m1 : 1 <= r.Max
 m2 : r.Max <= 65535
 len : r.Pixels.length = w * h
 px : ∀ k : Nat, k < w * h -> 0 <= gt r.Pixels (k : Int) /\ gt r.Pixels (k : Int) <= r.Max
theorem mS {w h : Nat} (a : w <= 9) (b : h <= 9) : w * h <= 81 := Nat.le_trans (Nat.mul_le_mul a b) (by decide)
theorem zm {w h : Nat} (a : w <= 64) (b : h <= 64) : w * h <= 4096 := Nat.le_trans (Nat.mul_le_mul a b) (by decide)
theorem Aq {n : Nat} {r : ak} (hn : 5000 < n) : Ok (ee n r) (fun c => c = 0 -> mx r.Width r.Height <= 9 -> ∃ w h : Nat, jZ r w h) := by
 unfold ee
 have bad : ∀ {t : Option Int}, Ok (some (1 : Int)) (fun c => c = 0 -> mx r.Width r.Height <= 9 -> ∃ w h : Nat, jZ r w h) := aw.2 fun h => by cases h
 refine Ok.cd (fun _ => aw.2 fun h => by cases h) (fun a1 => ?_)
 refine Ok.cd (fun _ => aw.2 fun h => by cases h) (fun a2 => ?_)
 refine Ok.cd (fun _ => aw.2 fun h => by cases h) (fun a3 => ?_)
 refine Ok.cd (fun _ => aw.2 fun h => by cases h) (fun a4 => ?_)
 refine Ok.cd (fun _ => aw.2 fun h => by cases h) (fun a5 => ?_)
 refine Ok.cd (fun _ => aw.2 fun h => by cases h) (fun a6 => ?_)
 have a1 := dcF a1; have a2 := dcF a2; have a3 := dcF a3; have a4 := dcF a4; have a5 := dcF a5; have a6 := dcF a6
 obtain ⟨w, hw⟩ : ∃ w : Nat, r.Width = w := ⟨r.Width.toNat, by omega⟩
 obtain ⟨h, hh⟩ : ∃ h : Nat, r.Height = h := ⟨r.Height.toNat, by omega⟩
 have hwh := zm (w := w) (h := h) (by omega) (by omega)
 have e : Ew (r.Width * r.Height) = ((w * h : Nat) : Int) := by
  rw [hw, hh, <- Int.natCast_mul, wrap64_in (by omega) (by omega)]
 rw [e]
 refine Ok.cd (fun _ => aw.2 fun h => by cases h) (fun a7 => ?_)
 have hl : r.Pixels.length = w * h := by have : (r.Pixels.length : Int) = ((w * h : Nat) : Int) := by simpa using a7
                                         omega
 refine Ok.bd (R := fun o : Sum Unit Int => match o with | .inl _ => ∀ k : Nat, k < w * h -> 0 <= gt r.Pixels (k : Int) /\ gt r.Pixels (k : Int) <= r.Max | .inr c => c ≠ 0) ?_ (by
  rintro (_ | c) h0
  · refine aw.2 fun _ hm => ⟨w, h, ?_⟩
    rw [zp] at hm
    exact ⟨hw, hh, by omega, by omega, by omega, by omega, by omega, by omega, hl, h0⟩
  · exact aw.2 fun e => (h0 e).elim)
 refine bI (fun x : Int => ∃ m : Nat, x = m /\ m <= w * h /\ ∀ k : Nat, k < m -> 0 <= gt r.Pixels (k : Int) /\ gt r.Pixels (k : Int) <= r.Max) (fun x => w * h - x.toNat) ?_ n 0 ⟨0, rfl, Nat.zero_le _, fun k hk => by omega⟩ (by first | omega | (dsimp only; omega))
 rintro again x ⟨m, rfl, hm, hI⟩ ih
 refine Ok.cd (fun hc => ?_) (fun hc => ?_)
 · have hlt : m < w * h := by have := dcT hc; omega
   refine Ok.gd (by rw [aJ]; exact decide_eq_true (by omega)) ?_
   refine Ok.cd (fun _ => aw.2 (show (1 : Int) ≠ 0 by omega)) (fun b1 => ?_)
   refine Ok.cd (fun _ => aw.2 (show (1 : Int) ≠ 0 by omega)) (fun b2 => ?_)
   have b1 := dcF b1; have b2 := dcF b2
   rw [wrap64_in (by omega) (by omega)]
   refine ih _ ⟨m + 1, by omega, by omega, fun k hk => ?_⟩ (by first | omega | (dsimp only; omega))
   rcases Nat.lt_succ_iff_lt_or_eq.1 hk with hk | rfl
   · exact hI k hk
   · omega
 · have : m = w * h := by have := dcF hc; omega
   subst this
   exact aw.2 hI
theorem y6 {n : Nat} {r : ak} {w h : Nat} (hr : jZ r w h) (hn : 100 < n) : gK n r = some 0 := by
 obtain ⟨hw, hh, a1, a2, a3, a4, a5, a6, hl, hp⟩ := hr
 have hwh := mS a2 a4
 apply Ok.eq
 unfold gK
 rw [qv, qv, zp]
 refine Ok.cd (fun h => by have := dcT h; omega) (fun _ => ?_)
 refine Ok.cd (fun h => by have := dcT h; omega) (fun _ => ?_)
 refine Ok.cd (fun h => by have := dcT h; omega) (fun _ => ?_)
 have e : Ew (r.Width * r.Height) = ((w * h : Nat) : Int) := by
  rw [hw, hh, <- Int.natCast_mul, wrap64_in (by omega) (by omega)]
 rw [e, hl]
 refine Ok.cd (fun h => by simp at h) (fun _ => ?_)
 refine Ok.bd (R := fun b => b = false) ?_ (by rintro _ rfl; exact Ok.cd (fun h => by cases h) (fun _ => aw.2 rfl))
 unfold bJ
 refine Ok.bd (R := fun i : Int => i = -1) ?_ (by rintro _ rfl; exact aw.2 (by decide))
 unfold bQ
 refine Ok.bd (R := fun o : Sum Unit Int => match o with | .inl _ => True | .inr c => False) ?_ (by
  rintro (_ | c) h0
  · exact aw.2 rfl
  · exact h0.elim)
 refine bI (fun x : Int => ∃ m : Nat, x = m /\ m <= w * h) (fun x => w * h - x.toNat) ?_ n 0 ⟨0, rfl, Nat.zero_le _⟩ (by first | omega | (dsimp only; omega))
 rintro again x ⟨m, rfl, hm⟩ ih
 refine Ok.cd (fun hc => ?_) (fun hc => aw.2 trivial)
 have hlt : m < w * h := by have := dcT hc; omega
 refine Ok.gd (by rw [aJ]; exact decide_eq_true (by omega)) ?_
 obtain ⟨p1, p2⟩ := hp m hlt
 refine Ok.bd (R := fun b => b = false) (by
  unfold iN
  refine Ok.cd (fun h => by have := dcT h; omega) (fun _ => aw.2 (decide_eq_false (by omega)))) ?_
 rintro _ rfl
 refine Ok.cd (fun h => by cases h) (fun _ => ?_)
 rw [wrap64_in (by omega) (by omega)]
 exact ih _ ⟨m + 1, by omega, by omega⟩ (by first | omega | (dsimp only; omega))
def qc (r : ak) (w x y : Nat) : Int := gt r.Pixels ((y * w + x : Nat) : Int)
def qd (r : ak) (w y : Nat) : Nat -> Int
 | 0 => 0
 | x + 1 => qd r w y x + qc r w x y
def gi (r : ak) (w : Nat) : Nat -> Nat -> Int
 | 0, _ => 0
 | y + 1, x => gi r w y x + qd r w y x
theorem sB (r : ak) (w : Nat) : ∀ y, gi r w y 0 = 0
 | 0 => rfl
 | y + 1 => by show gi r w y 0 + 0 = 0; rw [sB r w y]; rfl
section
variable {r : ak} {w h : Nat}
theorem oh {x y w h : Nat} (hx : x < w) (hy : y < h) : y * w + x < w * h := by
 have : (y + 1) * w <= h * w := Nat.mul_le_mul_right w hy
 rw [Nat.add_mul] at this
 rw [Nat.mul_comm w h]; omega
theorem wN (hr : jZ r w h) {x y : Nat} (hx : x < w) (hy : y < h) : 0 <= qc r w x y /\ qc r w x y <= 65535 := by
 have := hr.px (y * w + x) (oh hx hy); have := hr.m2
 unfold qc; omega
theorem xb (hr : jZ r w h) {y : Nat} (hy : y < h) : ∀ x, x <= w -> 0 <= qd r w y x /\ qd r w y x <= 65535 * x
 | 0, _ => by simp [qd]
 | x + 1, hx => by
  have := xb hr hy x (by omega); have := wN hr (x := x) (by omega) hy
  simp only [qd]; omega
theorem kz (hr : jZ r w h) : ∀ y x, y <= h -> x <= w -> 0 <= gi r w y x /\ gi r w y x <= 600000 * y
 | 0, x, _, _ => by simp [gi]
 | y + 1, x, hy, hx => by
  have := kz hr y x (by omega) hx; have := xb hr (y := y) (by omega) x hx; have := hr.w9
  simp only [gi]; omega
structure rm (r : ak) (w h : Nat) (t : List (List Int)) : Prop where
 len : t.length = h + 1
 row : ∀ y : Nat, y <= h -> (gt t (y : Int)).length = w + 1
 val : ∀ y x : Nat, y <= h -> x <= w -> gt (gt t (y : Int)) (x : Int) = gi r w y x
theorem qT {γ : Type} [Inhabited γ] {l : List γ} {j k : Nat} {x : γ} (h : k < l.length) : gt (l.set k x) (j : Int) = if j = k then x else gt l (j : Int) := by
 rw [cO, cO]
 simp only [List.getD_eq_getElem?_getD, List.getElem?_set]
 by_cases hj : j = k
 · subst hj; simp [h]
 · rw [if_neg (fun e => hj e.symm), if_neg hj]
theorem xk {γ : Type} [Inhabited γ] {z : γ} {m k : Nat} (h : k < m) : gt (List.replicate m z) (k : Int) = z := by
 rw [cO]; simp [List.getD_eq_getElem?_getD, List.getElem?_replicate, h]
theorem C2 {n : Nat} (hr : jZ r w h) {x y : Nat} (hx : x < w) (hy : y < h) : jN n r (x : Int) (y : Int) = some (qc r w x y) := by
 have hp := oh hx hy
 have := mS hr.w9 hr.h9
 have hyw : y * w <= w * h := by omega
 have e : Ew ((Ew ((y : Int) * r.Width)) + (x : Int)) = ((y * w + x : Nat) : Int) := by
  have e0 : Ew ((y * w : Nat) : Int) = ((y * w : Nat) : Int) := wrap64_in (by omega) (by omega)
  rw [hr.wd, <- Int.natCast_mul, e0, wrap64_in (by omega) (by omega)]; omega
 unfold jN
 rw [e]
 unfold gdO
 rw [aJ, hr.len, decide_eq_true hp]; rfl
def xo (r : ak) (w h : Nat) (y : Nat) (t : List (List Int)) : Prop :=
 t.length = h + 1 /\ ∀ j : Nat, j < y -> (gt t (j : Int)).length = w + 1 /\ ∀ x : Nat, x <= w -> gt (gt t (j : Int)) (x : Int) = gi r w j x
def pJ (r : ak) (w h : Nat) (y x : Nat) (t : List (List Int)) : Prop :=
 xo r w h y t /\ (gt t (y : Int)).length = w + 1 /\ ∀ i : Nat, i < x -> gt (gt t (y : Int)) (i : Int) = gi r w y i
theorem pJ.next {y x : Nat} {t : List (List Int)} (hy : y < h) (hx : x <= w) (hP : pJ r w h (y + 1) x t) {v : Int} (hv : v = gi r w (y + 1) x) :
  pJ r w h (y + 1) (x + 1) ((t.set (y + 1) ((gt t ((y + 1 : Nat) : Int)).set x v)).set y (gt t (y : Int))) := by
 obtain ⟨⟨h1, h2⟩, h3, h4⟩ := hP
 have l1 : (t.set (y + 1) ((gt t ((y + 1 : Nat) : Int)).set x v)).length = t.length := by simp
 have g : ∀ j : Nat, gt ((t.set (y + 1) ((gt t ((y + 1 : Nat) : Int)).set x v)).set y (gt t (y : Int))) (j : Int) = if j = y + 1 then (gt t ((y + 1 : Nat) : Int)).set x v else gt t (j : Int) := fun j => by
  rw [qT (by omega)]
  by_cases e : j = y
  · subst e; rw [if_pos rfl, if_neg (by omega)]
  · rw [if_neg e, qT (by omega)]
 refine ⟨⟨by simp [h1], fun j hj => ?_⟩, ?_, fun i hi => ?_⟩
 · rw [g, if_neg (by omega)]; exact h2 j hj
 · rw [g, if_pos rfl, List.length_set]; exact h3
 · rw [g, if_pos rfl, qT (by omega)]
   split
   · rename_i e; rw [hv, e]
   · exact h4 i (by omega)
theorem wm {n : Nat} (hr : jZ r w h) (hn : 100 < n) : Ok (fQ n r) (fun o => o.2 = 0 /\ rm r w h o.1) := by
 have hw := hr.wd; have hh := hr.ht; have w9 := hr.w9; have h9 := hr.h9
 unfold fQ
 refine Ok.bde (y6 hr hn) ?_
 refine Ok.cd (fun h => by cases h) (fun _ => ?_)
 have eH : Ew (r.Height + 1) = ((h + 1 : Nat) : Int) := by rw [hh, wrap64_in (by omega) (by omega)]; omega
 have eW : Ew (r.Width + 1) = ((w + 1 : Nat) : Int) := by rw [hw, wrap64_in (by omega) (by omega)]; omega
 rw [eH, eW, hw]
 clear eH eW
 simp only [Int.toNat_natCast]
 refine Ok.gd (decide_eq_true (by omega)) (Ok.gd (decide_eq_true (by omega)) (Ok.gd (decide_eq_true (by omega)) ?_))
 refine Ok.bd (R := xo r w h (h + 1)) ?_ (fun t ht => aw.2 ⟨rfl, ⟨ht.1, fun y hy => (ht.2 y (by omega)).1, fun y x hy hx => (ht.2 y (by omega)).2 x hx⟩⟩)
 refine bI (fun s : List (List Int) × Int => ∃ y : Nat, s.2 = y /\ y <= h + 1 /\ xo r w h y s.1) (fun s => h + 1 - s.2.toNat) ?_ n _ ⟨0, rfl, Nat.zero_le _, by simp, fun j hj => by omega⟩ (by first | omega | (dsimp only; omega))
 rintro again ⟨t, x⟩ ⟨y, rfl, hy, hT⟩ ih
 dsimp only at hT hy ⊢
 refine Ok.cd (fun hc => ?_) (fun hc => ?_)
 · have hlt : y < h + 1 := by have := dcT hc; simp at this; omega
   refine Ok.gd (decide_eq_true (by omega)) (Ok.gd (decide_eq_true (by omega)) (Ok.gd (decide_eq_true (by omega)) (Ok.gd (by rw [aJ, hT.1]; exact decide_eq_true hlt) ?_)))
   have ew : Ew ((y : Int) + 1) = ((y + 1 : Nat) : Int) := by rw [wrap64_in (by omega) (by omega)]; omega
   refine Ok.bd (R := fun t' => pJ r w h y (w + 1) t') ?_ (fun t' hR => by
    rw [ew]
    refine ih (t', ((y + 1 : Nat) : Int)) ⟨y + 1, rfl, by omega, hR.1.1, fun j hj => ?_⟩ (by first | omega | (dsimp only; omega))
    rcases Nat.lt_succ_iff_lt_or_eq.1 hj with hj | rfl
    · exact hR.1.2 j hj
    · exact ⟨hR.2.1, fun i hi => hR.2.2 i (by omega)⟩)
   clear ew hc
   have hrow : gt (t.set y (List.replicate (w + 1) (0 : Int))) (y : Int) = List.replicate (w + 1) 0 := by rw [qT (by rw [hT.1]; omega), if_pos rfl]
   have hT0 : xo r w h y (t.set y (List.replicate (w + 1) (0 : Int))) := ⟨by rw [List.length_set]; exact hT.1, fun j hj => by
    rw [qT (by rw [hT.1]; omega), if_neg (by omega)]; exact hT.2 j hj⟩
   have h0 : pJ r w h y 1 (t.set y (List.replicate (w + 1) (0 : Int))) := ⟨hT0, by rw [hrow]; simp, fun i hi => by
    obtain rfl : i = 0 := by omega
    rw [hrow, xk (by omega), sB]⟩
   have h00 : y = 0 -> pJ r w h y (w + 1) (t.set y (List.replicate (w + 1) (0 : Int))) := fun e => ⟨hT0, by rw [hrow]; simp, fun i hi => by
    rw [hrow, xk (by omega)]; subst e; rfl⟩
   refine bI (fun s : List (List Int) × Int => ∃ x : Nat, s.2 = x /\ 1 <= x /\ x <= w + 1 /\ pJ r w h y x s.1 /\ (y = 0 -> pJ r w h y (w + 1) s.1)) (fun s => w + 1 - s.2.toNat) ?_ n _ ⟨1, rfl, by omega, by omega, h0, h00⟩ (by first | omega | (dsimp only; omega))
   rintro again2 ⟨t2, x⟩ ⟨x, rfl, hx1, hx, hR, hR0⟩ ih2
   dsimp only at hR hR0 hx ⊢
   refine Ok.cd (fun hc => ?_) (fun hc => ?_)
   · have hlx : x <= w := by have := dcT hc; omega
     refine Ok.cd (fun hp => ?_) (fun hp => ?_)
     · have hy0 : 0 < y := by have := dcT hp; omega
       obtain ⟨y, rfl⟩ : ∃ y', y = y' + 1 := ⟨y - 1, by omega⟩
       obtain ⟨x, rfl⟩ : ∃ x', x = x' + 1 := ⟨x - 1, by omega⟩
       have ey : Ew (((y + 1 : Nat) : Int) - 1) = (y : Int) := by rw [wrap64_in (by omega) (by omega)]; omega
       have ex : Ew (((x + 1 : Nat) : Int) - 1) = (x : Int) := by rw [wrap64_in (by omega) (by omega)]; omega
       have ex1 : Ew (((x + 1 : Nat) : Int) + 1) = ((x + 1 + 1 : Nat) : Int) := by rw [wrap64_in (by omega) (by omega)]; omega
       rw [ey, ex, ex1]
       clear ey ex ex1 hp hc
       obtain ⟨p1, p2⟩ := hR.1.2 y (by omega)
       refine Ok.gd (by rw [aJ, hR.1.1]; exact decide_eq_true (by omega)) (Ok.gd (by rw [aJ, hR.1.1]; exact decide_eq_true (by omega)) (Ok.gd (decide_eq_true (by omega)) ?_))
       refine Ok.gd (by rw [aJ, p1]; exact decide_eq_true (by omega)) (Ok.gd (by rw [aJ, hR.2.1]; exact decide_eq_true (by omega)) (Ok.gd (by rw [aJ, p1]; exact decide_eq_true (by omega)) ?_))
       refine Ok.bde (C2 hr (x := x) (y := y) (by omega) (by omega)) ?_
       refine Ok.gd (by rw [aJ, hR.2.1]; exact decide_eq_true (by omega)) ?_
       rw [p2 (x + 1) (by omega), p2 x (by omega), hR.2.2 x (by omega)]
       have b1 := kz hr y (x + 1) (by omega) (by omega); have b2 := kz hr y x (by omega) (by omega); have b3 := kz hr (y + 1) x (by omega) (by omega)
       have b4 := wN hr (x := x) (y := y) (by omega) (by omega)
       have hval : Ew ((Ew ((Ew (gi r w y (x + 1) + gi r w (y + 1) x)) - gi r w y x)) + qc r w x y) = gi r w (y + 1) (x + 1) := by
        rw [wrap64_in (n := gi r w y (x + 1) + gi r w (y + 1) x) (by omega) (by omega), wrap64_in (n := gi r w y (x + 1) + gi r w (y + 1) x - gi r w y x) (by omega) (by omega), wrap64_in (by omega) (by omega)]
        simp only [gi, qd]; omega
       have := hR.next (by omega) hlx hval
       simp only [Int.toNat_natCast]
       exact ih2 (_, ((x + 1 + 1 : Nat) : Int)) ⟨x + 1 + 1, rfl, by omega, by omega, this, fun e => by omega⟩ (by first | omega | (dsimp only; omega))
     · have : y = 0 := by have := dcF hp; omega
       exact aw.2 (hR0 this)
   · have : x = w + 1 := by have := dcF hc; omega
     subst this
     exact aw.2 hR
 · have : y = h + 1 := by have := dcF hc; simp at this; omega
   subst this
   exact aw.2 hT
end
end Go.L

