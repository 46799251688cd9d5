import Derived.Test.YtgleghponjgkpaaGreatSldL52k
set_option linter.all false
namespace Go.L
open Go Go.Eng
def dblT (n : Int) (t : A3 Int) : List (A3 Int) := [t, A3.mk (wrapF .i64 (t.e0 + n)) (wrapF .i64 (t.e2 + n)) (wrapF .i64 (t.e1 + n))]
def wallT (n a b : Int) : List (A3 Int) := [A3.mk a (wrapF .i64 (a + n)) (wrapF .i64 (b + n)), A3.mk a (wrapF .i64 (b + n)) b]
def rowW (n : Int) (k : Nat) : List (A3 Int) := wallT n (k : Int) (wrapF .i64 ((k : Int) + 1)) ++ wallT n (wrapF .i64 ((wrapF .i64 (n - 1)) - (k : Int))) (wrapF .i64 ((wrapF .i64 (n - 2)) - (k : Int)))
def colW (n W : Int) (k : Nat) : List (A3 Int) := wallT n (wrapF .i64 ((wrapF .i64 ((wrapF .i64 ((k : Int) * W)) + W)) - 1)) (wrapF .i64 ((wrapF .i64 ((wrapF .i64 ((wrapF .i64 ((k : Int) + 1)) * W)) + W)) - 1)) ++ wallT n (wrapF .i64 ((wrapF .i64 ((k : Int) + 1)) * W)) (wrapF .i64 ((k : Int) * W))
def facesL (w h : Nat) : List (A3 Int) := (triT (w : Int) (w - 1) (h - 1)).flatMap (dblT ((w * h : Nat) : Int)) ++ (List.range (w - 1)).flatMap (rowW ((w * h : Nat) : Int)) ++ (List.range (h - 1)).flatMap (colW ((w * h : Nat) : Int) (w : Int))
def sI : List Int → Int
 | [] => 0
 | x :: l => x + sI l
theorem sI_append : ∀ a b : List Int, sI (a ++ b) = sI a + sI b
 | [], b => by simp [sI]
 | x :: a, b => by rw [List.cons_append, sI, sI, sI_append a b]; omega
theorem sI_add {ε : Type} {f g : ε → Int} : ∀ l : List ε, sI (l.map fun x => f x + g x) = sI (l.map f) + sI (l.map g)
 | [] => rfl
 | x :: l => by simp only [List.map_cons, sI, sI_add l]; omega
def lin (f : Nat → Int) (L : List (Nat × Int)) : Int := sI (L.map fun p => p.2 * f p.1)
theorem lin_append (f : Nat → Int) (a b : List (Nat × Int)) : lin f (a ++ b) = lin f a + lin f b := by unfold lin; rw [List.map_append, sI_append]
def coef (m : Nat) : List (Nat × Int) → Int
 | [] => 0
 | p :: L => (bif Nat.beq p.1 m then p.2 else 0) + coef m L
theorem beq_ne {a b : Nat} (h : a ≠ b) : Nat.beq a b = false := by
 cases hb : Nat.beq a b with
 | false => rfl
 | true => exact absurd (Nat.eq_of_beq_eq_true hb) h
theorem one_lin {f : Nat → Int} {i : Nat} {c : Int} : ∀ n, sI ((List.range n).map fun m => (bif Nat.beq i m then c else 0) * f m) = if i < n then c * f i else 0
 | 0 => rfl
 | n + 1 => by
  rw [List.range_succ, List.map_append, sI_append, one_lin n]
  simp only [List.map_cons, List.map_nil, sI]
  by_cases h : i = n
  · subst h
    rw [if_neg (by omega), if_pos (by omega), Nat.beq_refl]; simp
  · rw [beq_ne h]
    by_cases h2 : i < n
    · rw [if_pos h2, if_pos (by omega)]; simp
    · rw [if_neg h2, if_neg (by omega)]; simp
theorem lin_coef {f : Nat → Int} {M : Nat} : ∀ L : List (Nat × Int), (∀ p ∈ L, p.1 ≤ M) → lin f L = sI ((List.range (M + 1)).map fun m => coef m L * f m)
 | [], _ => by
  have : ∀ n, sI ((List.range n).map fun m => coef m [] * f m) = 0 := by
   intro n
   induction n with
   | zero => rfl
   | succ n ih => rw [List.range_succ, List.map_append, sI_append, ih]; simp [coef, sI]
  rw [this]; rfl
 | p :: L, h => by
  have ih := lin_coef (f := f) L fun q hq => h q (by simp [hq])
  have h1 := one_lin (f := f) (i := p.1) (c := p.2) (M + 1)
  rw [if_pos (by have := h p (by simp); omega)] at h1
  have e : (fun m => coef m (p :: L) * f m) = fun m => (bif Nat.beq p.1 m then p.2 else 0) * f m + coef m L * f m := by
   funext m; rw [coef, Int.add_mul]
  rw [e, sI_add, h1, ← ih]
  simp [lin, sI]
theorem lin_eq {f : Nat → Int} {M : Nat} {L L' : List (Nat × Int)} (h : (List.range (M + 1)).all (fun m => decide (coef m L = coef m L')) = true) (hL : L.all (fun p => Nat.ble p.1 M) = true) (hL' : L'.all (fun p => Nat.ble p.1 M) = true) : lin f L = lin f L' := by
 rw [lin_coef (M := M) L fun p hp => Nat.le_of_ble_eq_true (List.all_eq_true.1 hL p hp), lin_coef (M := M) L' fun p hp => Nat.le_of_ble_eq_true (List.all_eq_true.1 hL' p hp)]
 congr 1
 refine List.map_congr_left fun m hm => ?_
 rw [of_decide_eq_true (List.all_eq_true.1 h m hm)]
def pxI (w N v : Nat) : Int := 7 + 6 * (((v % N) % w : Nat) : Int)
def pyI (w N v : Nat) : Int := -5 + 6 * (((v % N) / w : Nat) : Int)
def cnZ (N v : Nat) : Nat := bif Nat.blt v N then v else N
def det3 (xp yp zp xq yq zq xr yr zr : Int) : Int := xp * (yq * zr - zq * yr) + yp * (zq * xr - xq * zr) + zp * (xq * yr - yq * xr)
def detF (w N : Nat) (f : Nat → Int) (t : A3 Int) : Int := det3 (pxI w N t.e0.toNat) (pyI w N t.e0.toNat) (f (cnZ N t.e0.toNat)) (pxI w N t.e1.toNat) (pyI w N t.e1.toNat) (f (cnZ N t.e1.toNat)) (pxI w N t.e2.toNat) (pyI w N t.e2.toNat) (f (cnZ N t.e2.toNat))
def cfF (w N : Nat) (t : A3 Int) : List (Nat × Int) :=
 [(cnZ N t.e0.toNat, pxI w N t.e1.toNat * pyI w N t.e2.toNat - pyI w N t.e1.toNat * pxI w N t.e2.toNat), (cnZ N t.e1.toNat, pyI w N t.e0.toNat * pxI w N t.e2.toNat - pxI w N t.e0.toNat * pyI w N t.e2.toNat), (cnZ N t.e2.toNat, pxI w N t.e0.toNat * pyI w N t.e1.toNat - pyI w N t.e0.toNat * pxI w N t.e1.toNat)]
theorem det_lin (w N : Nat) (f : Nat → Int) (t : A3 Int) : detF w N f t = lin f (cfF w N t) := by
 unfold detF det3 cfF lin
 simp only [List.map_cons, List.map_nil, sI]
 grind
theorem dets_lin (w N : Nat) (f : Nat → Int) : ∀ l : List (A3 Int), sI (l.map (detF w N f)) = lin f (l.flatMap (cfF w N))
 | [] => rfl
 | t :: l => by rw [List.map_cons, sI, List.flatMap_cons, lin_append, dets_lin w N f l, det_lin]
def upL (N : Nat) (t : A3 Int) : List (Nat × Int) := [(t.e0.toNat, 36), (t.e1.toNat, 36), (t.e2.toNat, 36), (N, -108)]
def upF (N : Nat) (f : Nat → Int) (t : A3 Int) : Int := 36 * (f t.e0.toNat - f N + (f t.e1.toNat - f N) + (f t.e2.toNat - f N))
theorem ups_lin (N : Nat) (f : Nat → Int) : ∀ l : List (A3 Int), sI (l.map (upF N f)) = lin f (l.flatMap (upL N))
 | [] => rfl
 | t :: l => by
  rw [List.map_cons, sI, List.flatMap_cons, lin_append, ups_lin N f l]
  congr 1
  unfold upF upL lin
  simp only [List.map_cons, List.map_nil, sI]
  omega
def eds (t : A3 Int) : List (A2 Int) := [A2.mk t.e0 t.e1, A2.mk t.e1 t.e2, A2.mk t.e2 t.e0]
def eqE (a b : A2 Int) : Bool := (a.e0 == b.e0) && (a.e1 == b.e1)
def revE (a : A2 Int) : A2 Int := A2.mk a.e1 a.e0
def cntE (k : A2 Int) (l : List (A2 Int)) : Nat := l.countP (eqE k)
theorem eqE_iff {a b : A2 Int} : eqE a b = true ↔ a = b := by
 obtain ⟨a0, a1⟩ := a; obtain ⟨b0, b1⟩ := b
 simp [eqE]
def split2 : List Nat → List Nat × List Nat
 | [] => ([], [])
 | x :: l => (x :: (split2 l).2, (split2 l).1)
def mrg : Nat → List Nat → List Nat → List Nat
 | 0, a, b => a ++ b
 | _ + 1, [], b => b
 | _ + 1, x :: a, [] => x :: a
 | n + 1, x :: a, y :: b => bif Nat.ble x y then x :: mrg n a (y :: b) else y :: mrg n (x :: a) b
def msrt : Nat → List Nat → List Nat
 | 0, l => l
 | n + 1, l => match l with | [] => [] | [x] => [x] | _ => mrg 1000 (msrt n (split2 l).1) (msrt n (split2 l).2)
theorem split2_perm : ∀ l : List Nat, ((split2 l).1 ++ (split2 l).2).Perm l
 | [] => List.Perm.refl _
 | x :: l => by
  show ((x :: (split2 l).2) ++ (split2 l).1).Perm (x :: l)
  rw [List.cons_append]
  exact ((List.perm_append_comm).trans (split2_perm l)).cons x
theorem mrg_perm : ∀ (n : Nat) (a b : List Nat), (mrg n a b).Perm (a ++ b)
 | 0, _, _ => List.Perm.refl _
 | _ + 1, [], b => List.Perm.refl _
 | _ + 1, x :: a, [] => by rw [mrg, List.append_nil]
 | n + 1, x :: a, y :: b => by
  rw [mrg]
  cases Nat.ble x y with
  | true => exact (mrg_perm n a (y :: b)).cons x
  | false =>
   refine ((mrg_perm n (x :: a) b).cons y).trans ?_
   exact (List.perm_middle).symm
theorem msrt_perm : ∀ (n : Nat) (l : List Nat), (msrt n l).Perm l
 | 0, _ => List.Perm.refl _
 | n + 1, l => by
  unfold msrt
  split
  · exact List.Perm.refl _
  · exact List.Perm.refl _
  · exact (mrg_perm _ _ _).trans (((msrt_perm n _).append (msrt_perm n _)).trans (split2_perm l))
def eqL : List Nat → List Nat → Bool
 | [], [] => true
 | x :: a, y :: b => Nat.beq x y && eqL a b
 | _, _ => false
theorem eqL_eq : ∀ {a b : List Nat}, eqL a b = true → a = b
 | [], [], _ => rfl
 | x :: a, y :: b, h => by
  simp only [eqL, Bool.and_eq_true] at h
  rw [Nat.eq_of_beq_eq_true h.1, eqL_eq h.2]
 | [], _ :: _, h => by cases h
 | _ :: _, [], h => by cases h
def cdE (k : A2 Int) : Nat := k.e0.toNat * 64 + k.e1.toNat
def dcE (c : Nat) : A2 Int := A2.mk ((c / 64 : Nat) : Int) ((c % 64 : Nat) : Int)
def inE (k : A2 Int) : Bool := decide (0 ≤ k.e0) && decide (k.e0 < 64) && decide (0 ≤ k.e1) && decide (k.e1 < 64)
theorem dc_cd {k : A2 Int} (h : inE k = true) : dcE (cdE k) = k := by
 obtain ⟨a, b⟩ := k
 unfold inE at h
 simp only [Bool.and_eq_true, decide_eq_true_eq] at h
 unfold dcE cdE
 congr 1
 · show (((a.toNat * 64 + b.toNat) / 64 : Nat) : Int) = a; omega
 · show (((a.toNat * 64 + b.toNat) % 64 : Nat) : Int) = b; omega
def shut (D : List (A2 Int)) : Bool := D.all inE && eqL (msrt 12 (D.map cdE)) (msrt 12 (D.map fun k => cdE (revE k)))
theorem closed_all {D : List (A2 Int)} (h : shut D = true) (k : A2 Int) : cntE (revE k) D = cntE k D := by
 unfold shut at h
 rw [Bool.and_eq_true] at h
 have hin : ∀ k ∈ D, inE k = true := fun k hk => List.all_eq_true.1 h.1 k hk
 have hp : (D.map cdE).Perm (D.map fun k => cdE (revE k)) := (msrt_perm 12 _).symm.trans ((eqL_eq h.2) ▸ msrt_perm 12 _)
 have hp := hp.map dcE
 rw [List.map_map, List.map_map] at hp
 have e1 : D.map (dcE ∘ cdE) = D := by
  have : D.map (dcE ∘ cdE) = D.map id := List.map_congr_left fun k hk => dc_cd (hin k hk)
  rw [this, List.map_id]
 have e2 : D.map (dcE ∘ fun k => cdE (revE k)) = D.map revE := List.map_congr_left fun k hk => dc_cd (by
  have := hin k hk
  unfold inE at this ⊢
  simp only [Bool.and_eq_true, decide_eq_true_eq] at this ⊢
  exact ⟨⟨⟨this.1.2, this.2⟩, this.1.1.1⟩, this.1.1.2⟩)
 rw [e1, e2] at hp
 unfold cntE
 rw [hp.countP_eq, List.countP_map]
 congr 1
 funext x
 show eqE (revE k) (revE x) = eqE k x
 unfold eqE revE
 rw [Bool.and_comm]
def incE (E : List (A2 Int × Int)) (k : A2 Int) : List (A2 Int × Int) := putM E k (wrapF .i64 ((getM 0 E k) + 1))
theorem get_put {E : List (A2 Int × Int)} {k k' : A2 Int} {v : Int} : getM 0 (putM E k v) k' = if k' = k then v else getM 0 E k' := by
 induction E with
 | nil =>
  simp only [putM, getM]
  by_cases h : k' = k
  · subst h; simp
  · have : (k' == k) = false := by simpa using h
    rw [this, if_neg h]; rfl
 | cons p E ih =>
  simp only [putM]
  cases h1 : k == p.1 with
  | true =>
   have h1 := eq_of_beq h1
   simp only [cond_true, getM]
   by_cases h : k' = k
   · subst h; simp
   · have : (k' == k) = false := by simpa using h
     have h2 : (k' == p.1) = false := by rw [← h1]; exact this
     rw [this, if_neg h, h2]; rfl
  | false =>
   simp only [cond_false, getM, ih]
   cases h2 : k' == p.1 with
   | true =>
    have h2 := eq_of_beq h2
    have : k' ≠ k := fun e => by rw [← e, h2] at h1; simp at h1
    simp [this]
   | false => rfl
theorem inc_get : ∀ (D : List (A2 Int)) (E : List (A2 Int × Int)) (B : Int), 0 ≤ B → B + D.length ≤ 100000 → (∀ k, 0 ≤ getM 0 E k ∧ getM 0 E k ≤ B) → ∀ k, getM 0 (D.foldl incE E) k = getM 0 E k + (cntE k D : Nat)
 | [], E, B, _, _, _, k => by simp [cntE]
 | d :: D, E, B, h0, hB, hE, k => by
  rw [List.foldl_cons]
  have hc : cntE k (d :: D) = cntE k D + if eqE k d = true then 1 else 0 := by unfold cntE; rw [List.countP_cons]
  rw [List.length_cons] at hB
  have hb := hE d
  have hw : wrapF .i64 (getM 0 E d + 1) = getM 0 E d + 1 := wrap64_in (by omega) (by omega)
  have hi : ∀ k, getM 0 (incE E d) k = if k = d then getM 0 E d + 1 else getM 0 E k := fun k => by unfold incE; rw [get_put, hw]
  rw [inc_get D (incE E d) (B + 1) (by omega) (by omega) (fun k => by rw [hi]; have := hE k; split <;> omega) k, hi, hc]
  by_cases h : k = d
  · subst h
    rw [if_pos rfl, if_pos (eqE_iff.2 rfl)]; omega
  · rw [if_neg h, if_neg fun e => h (eqE_iff.1 e)]; omega
theorem keys_put {E : List (A2 Int × Int)} {k : A2 Int} {v : Int} : (k ∈ E.map (·.1) ∧ (putM E k v).map (·.1) = E.map (·.1)) ∨ (k ∉ E.map (·.1) ∧ (putM E k v).map (·.1) = E.map (·.1) ++ [k]) := by
 induction E with
 | nil => exact .inr ⟨by simp, rfl⟩
 | cons q E ih =>
  simp only [putM]
  cases h1 : k == q.1 with
  | true =>
   have h1 := eq_of_beq h1
   exact .inl ⟨by simp [h1], by simp [h1]⟩
  | false =>
   have h1 : k ≠ q.1 := by simpa using h1
   rcases ih with ⟨a, b⟩ | ⟨a, b⟩
   · exact .inl ⟨by simp only [List.map_cons, List.mem_cons]; exact .inr a, by simp only [cond_false, List.map_cons, b]⟩
   · exact .inr ⟨by simp only [List.map_cons, List.mem_cons, not_or]; exact ⟨h1, a⟩, by simp only [cond_false, List.map_cons, b, List.cons_append]⟩
theorem once_put {E : List (A2 Int × Int)} {k : A2 Int} {v : Int} (h : (E.map (·.1)).Nodup) : ((putM E k v).map (·.1)).Nodup := by
 rcases keys_put (E := E) (k := k) (v := v) with ⟨_, e⟩ | ⟨a, e⟩
 · rw [e]; exact h
 · rw [e, List.nodup_append]
   exact ⟨h, by simp, fun x hx y hy => by simp at hy; subst hy; exact fun e => a (e ▸ hx)⟩
theorem once_inc : ∀ (D : List (A2 Int)) (E : List (A2 Int × Int)), (E.map (·.1)).Nodup → ((D.foldl incE E).map (·.1)).Nodup
 | [], _, h => h
 | d :: D, E, h => by rw [List.foldl_cons]; exact once_inc D _ (once_put h)
theorem get_mem : ∀ {E : List (A2 Int × Int)} {p : A2 Int × Int}, (E.map (·.1)).Nodup → p ∈ E → getM 0 E p.1 = p.2
 | q :: E, p, h, hm => by
  simp only [List.map_cons, List.nodup_cons] at h
  simp only [getM]
  rcases List.mem_cons.1 hm with e | hm
  · subst e; simp
  · have : p.1 ≠ q.1 := fun e => h.1 (e ▸ List.mem_map_of_mem hm)
    have : (p.1 == q.1) = false := by simpa using this
    rw [this, cond_false]; exact get_mem h.2 hm
theorem closed_get {D : List (A2 Int)} (h : shut D = true) (hl : D.length ≤ 1000) {p : A2 Int × Int} (hp : p ∈ D.foldl incE []) : getM 0 (D.foldl incE []) (A2.mk p.1.e1 p.1.e0) = p.2 := by
 have h1 := get_mem (once_inc D [] (by simp)) hp
 have hg := inc_get D [] 0 (by omega) (by omega) (fun k => by simp [getM])
 rw [hg p.1] at h1
 rw [hg, ← h1]
 have := closed_all h p.1
 unfold revE at this
 rw [this]; rfl
def okT (N : Nat) (t : A3 Int) : Bool := decide (0 ≤ t.e0) && decide (t.e0 < 2 * (N : Int)) && !(t.e0 == t.e1) && decide (0 ≤ t.e1) && decide (t.e1 < 2 * (N : Int)) && !(t.e1 == t.e2) && decide (0 ≤ t.e2) && decide (t.e2 < 2 * (N : Int)) && !(t.e2 == t.e0)
def sizeOk (w h : Nat) : Bool :=
 (facesL w h).all (okT (w * h)) && shut ((facesL w h).flatMap eds) && Nat.ble ((facesL w h).length) 200 &&
 (List.range (w * h + 1)).all (fun m => decide (coef m ((facesL w h).flatMap (cfF w (w * h))) = coef m ((triT (w : Int) (w - 1) (h - 1)).flatMap (upL (w * h))))) &&
 ((facesL w h).flatMap (cfF w (w * h))).all (fun p => Nat.ble p.1 (w * h)) && ((triT (w : Int) (w - 1) (h - 1)).flatMap (upL (w * h))).all (fun p => Nat.ble p.1 (w * h))
theorem size22 : sizeOk 2 2 = true := by kernel_rfl
theorem size23 : sizeOk 2 3 = true := by kernel_rfl
theorem size24 : sizeOk 2 4 = true := by kernel_rfl
theorem size25 : sizeOk 2 5 = true := by kernel_rfl
theorem size32 : sizeOk 3 2 = true := by kernel_rfl
theorem size33 : sizeOk 3 3 = true := by kernel_rfl
theorem size34 : sizeOk 3 4 = true := by kernel_rfl
theorem size35 : sizeOk 3 5 = true := by kernel_rfl
theorem size42 : sizeOk 4 2 = true := by kernel_rfl
theorem size43 : sizeOk 4 3 = true := by kernel_rfl
theorem size44 : sizeOk 4 4 = true := by kernel_rfl
theorem size45 : sizeOk 4 5 = true := by kernel_rfl
theorem size52 : sizeOk 5 2 = true := by kernel_rfl
theorem size53 : sizeOk 5 3 = true := by kernel_rfl
theorem size54 : sizeOk 5 4 = true := by kernel_rfl
theorem size55 : sizeOk 5 5 = true := by kernel_rfl
theorem size_ok {w h : Nat} (hw : 2 ≤ w ∧ w ≤ 5) (hh : 2 ≤ h ∧ h ≤ 5) : sizeOk w h = true := by
 rcases (by omega : w = 2 ∨ w = 3 ∨ w = 4 ∨ w = 5) with rfl | rfl | rfl | rfl <;> rcases (by omega : h = 2 ∨ h = 3 ∨ h = 4 ∨ h = 5) with rfl | rfl | rfl | rfl
 · exact size22
 · exact size23
 · exact size24
 · exact size25
 · exact size32
 · exact size33
 · exact size34
 · exact size35
 · exact size42
 · exact size43
 · exact size44
 · exact size45
 · exact size52
 · exact size53
 · exact size54
 · exact size55
theorem dets_up {w h : Nat} (hw : 2 ≤ w ∧ w ≤ 5) (hh : 2 ≤ h ∧ h ≤ 5) (f : Nat → Int) : sI ((facesL w h).map (detF w (w * h) f)) = sI ((triT (w : Int) (w - 1) (h - 1)).map (upF (w * h) f)) := by
 have hs := size_ok hw hh
 unfold sizeOk at hs
 simp only [Bool.and_eq_true] at hs
 obtain ⟨⟨⟨⟨⟨_, _⟩, _⟩, h4⟩, h5⟩, h6⟩ := hs
 rw [dets_lin, ups_lin]
 exact lin_eq h4 h5 h6
theorem faces_ok {w h : Nat} (hw : 2 ≤ w ∧ w ≤ 5) (hh : 2 ≤ h ∧ h ≤ 5) : (∀ t ∈ facesL w h, okT (w * h) t = true) ∧ (facesL w h).length ≤ 200 ∧ ∀ p ∈ ((facesL w h).flatMap eds).foldl incE [], getM 0 (((facesL w h).flatMap eds).foldl incE []) (A2.mk p.1.e1 p.1.e0) = p.2 := by
 have hs := size_ok hw hh
 unfold sizeOk at hs
 simp only [Bool.and_eq_true] at hs
 obtain ⟨⟨⟨⟨⟨h1, h2⟩, h3⟩, _⟩, _⟩, _⟩ := hs
 have h3 := Nat.le_of_ble_eq_true h3
 refine ⟨fun t ht => List.all_eq_true.1 h1 t ht, h3, fun p hp => closed_get h2 ?_ hp⟩
 have : ∀ l : List (A3 Int), (l.flatMap eds).length = 3 * l.length := by
  intro l
  induction l with
  | nil => rfl
  | cons t l ih => rw [List.flatMap_cons, List.length_append, ih, List.length_cons]; simp [eds]; omega
 rw [this]; omega
end Go.L


set_option linter.all false
namespace Go.L
open Go Go.Eng
theorem min_in {n : Nat} {s : List Int} (h0 : 0 < s.length) (hn : s.length < n) (hl : s.length ≤ 9223372036854775806) : Ok (slices_Min_int_int n s) fun v => v ∈ s := by
 unfold slices_Min_int_int
 have hm : ∀ k, k < s.length → gt s (k : Int) ∈ s := fun k hk => by rw [gt_nat]; simp only [List.getD, List.getElem?_eq_getElem hk, Option.getD_some]; exact List.getElem_mem hk
 refine Ok.gd (by simp; omega) (Ok.gd (by rw [inR_iff]; omega) (Ok.bd (R := fun v => v ∈ s) ?_ (fun v hv => ok_some.2 hv)))
 refine ok_loop (fun x : Int × Int => ∃ k : Nat, x.2 = (k : Int) ∧ k ≤ s.length ∧ x.1 ∈ s) (fun x => s.length - x.2.toNat) ?_ n _ ⟨1, rfl, h0, hm 0 h0⟩ (by simp; omega)
 rintro again ⟨c, x⟩ ⟨k, hx, hk, hc⟩ ih
 obtain rfl : x = (k : Int) := hx
 dsimp only at ih hc ⊢
 refine Ok.cd (fun h => ?_) (fun _ => ok_some.2 hc)
 have h := of_decide_eq_true h
 refine Ok.gd (by rw [inR_nat]; exact decide_eq_true (by omega)) ?_
 rw [wrap64_in (by omega) (by omega)]
 refine ih _ ⟨k + 1, by simp, by omega, ?_⟩ ?_
 · have h1 := hm k (by omega)
   dsimp only
   unfold mn
   split
   · assumption
   · assumption
 · simp; omega
def spotE (g : api_Grid) (k : Int) (z : Int) : api_Spot := api_Spot.mk (wrapF .i64 (g.X0 + (wrapF .i64 ((k.tmod g.Width) * g.Step)))) (wrapF .i64 (g.Y0 + (wrapF .i64 ((wrapF .i64 (k.tdiv g.Width)) * g.Step)))) z
def vertF (g : api_Grid) (base : Int) (k : Nat) : api_Spot := spotE g ((k % g.Z.length : Nat) : Int) (if k < g.Z.length then gt g.Z (k : Int) else base)
def vertL (g : api_Grid) (base : Int) : List api_Spot := (List.range (2 * g.Z.length)).map (vertF g base)
theorem tmod_nat {a b : Nat} : ((a : Int)).tmod (b : Int) = ((a % b : Nat) : Int) := by rw [Int.tmod_eq_emod_of_nonneg (by omega)]; rfl
theorem vert_len (g : api_Grid) (base : Int) : (vertL g base).length = 2 * g.Z.length := by simp [vertL]
theorem gd2 {l m : List (A3 Int)} (h : l.length ≤ 100000) : (gdO (decide ((l.length + 2) * 24 ≤ 140737488355328)) (gdO (decide (l.length + 2 ≤ 4611686018427387904)) (some (l ++ m))) : Option (List (A3 Int))) = some (l ++ m) := by
 rw [decide_eq_true (show (l.length + 2) * 24 ≤ 140737488355328 by omega), decide_eq_true (show l.length + 2 ≤ 4611686018427387904 by omega)]; rfl
theorem wall_v {n : Nat} {a b c : Int} {V : List api_Spot} {l : List (A3 Int)} (h : l.length ≤ 100000) : volume_Solid_1_w n a b V l c = some (l ++ wallT c a b) := gd2 h
theorem flat_takeA {α β : Type} [Inhabited α] (f : α → List β) {l : List α} {k : Nat} (h : k < l.length) : (l.take (k + 1)).flatMap f = (l.take k).flatMap f ++ f (l.getD k default) := by
 rw [List.take_add_one, List.getElem?_eq_getElem h, List.flatMap_append]
 simp [List.getD, List.getElem?_eq_getElem h]
theorem dbl_len (n : Int) : ∀ l : List (A3 Int), (l.flatMap (dblT n)).length = 2 * l.length
 | [] => rfl
 | t :: l => by rw [List.flatMap_cons, List.length_append, dbl_len n l]; simp [dblT]; omega
theorem rowW_len (n : Int) (k : Nat) : ((List.range k).flatMap (rowW n)).length = 4 * k := by
 induction k with
 | zero => rfl
 | succ k ih => rw [List.range_succ, List.flatMap_append, List.length_append, ih]; simp [rowW, wallT]; omega
theorem colW_len (n W : Int) (k : Nat) : ((List.range k).flatMap (colW n W)).length = 4 * k := by
 induction k with
 | zero => rfl
 | succ k ih => rw [List.range_succ, List.flatMap_append, List.length_append, ih]; simp [colW, wallT]; omega
theorem solid_v {g : api_Grid} {w h : Nat} {base : Int} (hg : Gd g w h) (h0 : gcode g = 0) (h25 : g.Z.length ≤ 25) (hz : ∀ z ∈ g.Z, base ≤ z ∧ -2147483648 < z) (hb : farE base = false) : volume_Solid 20000 g base = some (api_Mesh.mk (vertL g base) (facesL w h), 0) := by
 have hw := hg.w1; have hh := hg.h1; have hH := hg.H; have hW := hg.W; have hm := hg.m
 have hm4 : 4 ≤ g.Z.length := by rw [hm]; exact Nat.mul_le_mul hw.1 hh.1
 have hN : ¬ ((g.Z.length : Nat) : Int) = 0 := by omega
 have hWn : ¬ g.Width = 0 := by omega
 have hw25 : w ≤ 25 := by have : w * 1 ≤ w * h := Nat.mul_le_mul_left _ (by omega); omega
 have hh25 : h ≤ 25 := by have : 1 * h ≤ w * h := Nat.mul_le_mul_right _ (by omega); omega
 apply Ok.eq
 unfold volume_Solid
 refine Ok.bde (tcheck_v (by omega) g) ?_
 rw [h0]
 refine Ok.cd (fun h => by cases h) (fun _ => Ok.cd (fun h => by have := of_decide_eq_true h; omega) (fun _ => ?_))
 refine Ok.bde (has_v (by omega) (by omega)) (Ok.cd (fun h => ?_) (fun _ => ?_))
 · rw [List.any_eq_true] at h
   obtain ⟨z, hz1, hz2⟩ := h
   have := (hz z hz1).2
   have : (-2147483648 : Int) = z := by simpa using hz2
   omega
 refine Ok.bde vfar_v ?_
 rw [hb]
 refine Ok.cd (fun h => by cases h) (fun _ => Ok.bd (min_in (by omega) (by omega) (by omega)) fun v hv => Ok.cd (fun h => by have := of_decide_eq_true h; have := (hz v hv).1; omega) (fun _ => ?_))
 refine Ok.bd (R := fun o => o = vertL g base) ?_ ?_
 · refine ok_rangeR (len := 2 * g.Z.length) (fun k c => c = (List.range k).map (vertF g base)) (by omega) (by omega) rfl ?_ ?_
   · rintro again k c hk rfl ih
     have step := ih ((List.range (k + 1)).map (vertF g base)) rfl
     rw [List.range_succ, List.map_append] at step
     dsimp only
     rw [wrap64_in (n := 2 * (g.Z.length : Int)) (by omega) (by omega), tmod_nat]
     refine Ok.cd (fun _ => Ok.gd (by simpa using hN) (Ok.gd (by simpa using hWn) ?_)) (fun h => by have := of_decide_eq_false h; omega)
     refine Ok.cd (fun hlt => ?_) (fun hge => ?_)
     · have hlt : k < g.Z.length := by have := of_decide_eq_true hlt; omega
       refine Ok.gd (by rw [inR_nat]; exact decide_eq_true hlt) (Ok.gd (decide_eq_true (by simp; omega)) (Ok.gd (decide_eq_true (by simp; omega)) ?_))
       have e : vertF g base k = spotE g ((k % g.Z.length : Nat) : Int) (gt g.Z (k : Int)) := by unfold vertF; rw [if_pos hlt]
       simp only [List.map_cons, List.map_nil, e] at step
       exact step
     · have hge : ¬ k < g.Z.length := by have := of_decide_eq_false hge; omega
       refine Ok.gd (decide_eq_true (by simp; omega)) (Ok.gd (decide_eq_true (by simp; omega)) ?_)
       have e : vertF g base k = spotE g ((k % g.Z.length : Nat) : Int) base := by unfold vertF; rw [if_neg hge]
       simp only [List.map_cons, List.map_nil, e] at step
       exact step
   · rintro again c rfl
     dsimp only
     rw [wrap64_in (n := 2 * (g.Z.length : Int)) (by omega) (by omega)]
     exact Ok.cd (fun h => by have := of_decide_eq_true h; omega) (fun _ => ok_some.2 rfl)
 rintro V rfl
 have hT : triF g w h = triT (w : Int) (w - 1) (h - 1) := by
  unfold triF
  rw [hW, List.filter_eq_self]
  intro t ht
  obtain ⟨i0, i1, i2⟩ := tri_in hg (by rw [hW]; exact ht)
  have hne : ∀ i, inR i g.Z.length = true → (gt g.Z i != -2147483648) = true := by
   intro i hi
   have hi2 := inR_iff.1 hi
   obtain ⟨k, rfl⟩ : ∃ k : Nat, i = (k : Int) := ⟨i.toNat, by omega⟩
   have hk : k < g.Z.length := by omega
   have := (hz (g.Z.getD k default) (by simp only [List.getD, List.getElem?_eq_getElem hk, Option.getD_some]; exact List.getElem_mem hk)).2
   rw [gt_nat]
   exact bne_iff_ne.2 (by omega)
  unfold hasZ
  rw [hne _ i0, hne _ i1, hne _ i2]; rfl
 have hTl : (triT (w : Int) (w - 1) (h - 1)).length ≤ 1300 := by
  rw [tri_len]
  have : 2 * (w - 1) * (h - 1) ≤ 2 * 25 * 25 := Nat.mul_le_mul (by omega) (by omega)
  omega
 refine Ok.bde (tri_v (by omega) hg) ?_
 rw [hT]
 generalize hTT : triT (w : Int) (w - 1) (h - 1) = T at *
 refine Ok.bd (R := fun o => o = T.flatMap (dblT (g.Z.length : Int))) ?_ ?_
 · refine ok_rangeR (len := T.length) (fun k c => c = (T.take k).flatMap (dblT (g.Z.length : Int))) (by omega) (by omega) rfl ?_ ?_
   · rintro again k c hk rfl ih
     have hl : ((T.take k).flatMap (dblT (g.Z.length : Int))).length ≤ 8000 := by rw [dbl_len, List.length_take]; omega
     refine Ok.cd (fun _ => ?_) (fun h => by have := of_decide_eq_false h; omega)
     refine Ok.gd (by rw [inR_nat]; exact decide_eq_true hk) (Ok.gd (decide_eq_true (by omega)) (Ok.gd (decide_eq_true (by omega)) (ih _ ?_)))
     rw [flat_takeA _ hk, gt_nat]; rfl
   · rintro again c rfl
     exact Ok.cd (fun h => by simp at h) (fun _ => ok_some.2 (by rw [List.take_length]))
 rintro F0 rfl
 have hFl : (T.flatMap (dblT (g.Z.length : Int))).length ≤ 2600 := by rw [dbl_len]; omega
 rw [wrap64_in (n := g.Width - 1) (by omega) (by omega), wrap64_in (n := g.Height - 1) (by omega) (by omega)]
 refine Ok.bd (R := fun o => o = T.flatMap (dblT (g.Z.length : Int)) ++ (List.range (w - 1)).flatMap (rowW (g.Z.length : Int))) ?_ ?_
 · refine ok_rangeR (len := w - 1) (fun k c => c = T.flatMap (dblT (g.Z.length : Int)) ++ (List.range k).flatMap (rowW (g.Z.length : Int))) (by omega) (by omega) (by simp) ?_ ?_
   · rintro again k c hk rfl ih
     have hl := rowW_len (g.Z.length : Int) k
     have step := ih (T.flatMap (dblT (g.Z.length : Int)) ++ (List.range (k + 1)).flatMap (rowW (g.Z.length : Int))) rfl
     rw [List.range_succ, List.flatMap_append, ← List.append_assoc] at step
     refine Ok.cd (fun _ => ?_) (fun h => by have := of_decide_eq_false h; omega)
     refine Ok.bde (wall_v (by rw [List.length_append]; omega)) (Ok.bde (wall_v (by rw [List.length_append, List.length_append]; simp only [wallT, List.length_cons, List.length_nil]; omega)) ?_)
     simp only [List.flatMap_cons, List.flatMap_nil, List.append_nil, rowW] at step
     rw [← List.append_assoc] at step
     exact step
   · rintro again c rfl
     exact Ok.cd (fun h => by have := of_decide_eq_true h; omega) (fun _ => ok_some.2 rfl)
 rintro F1 rfl
 have hFl1 := rowW_len (g.Z.length : Int) (w - 1)
 refine Ok.bd (R := fun o => o = T.flatMap (dblT (g.Z.length : Int)) ++ (List.range (w - 1)).flatMap (rowW (g.Z.length : Int)) ++ (List.range (h - 1)).flatMap (colW (g.Z.length : Int) (w : Int))) ?_ ?_
 · rw [hW]
   refine ok_rangeR (len := h - 1) (fun k c => c = T.flatMap (dblT (g.Z.length : Int)) ++ (List.range (w - 1)).flatMap (rowW (g.Z.length : Int)) ++ (List.range k).flatMap (colW (g.Z.length : Int) (w : Int))) (by omega) (by omega) (by simp) ?_ ?_
   · rintro again k c hk rfl ih
     have hl := colW_len (g.Z.length : Int) (w : Int) k
     have step := ih (T.flatMap (dblT (g.Z.length : Int)) ++ (List.range (w - 1)).flatMap (rowW (g.Z.length : Int)) ++ (List.range (k + 1)).flatMap (colW (g.Z.length : Int) (w : Int))) rfl
     rw [List.range_succ, List.flatMap_append, ← List.append_assoc] at step
     refine Ok.cd (fun _ => ?_) (fun h => by have := of_decide_eq_false h; omega)
     refine Ok.bde (wall_v (by rw [List.length_append, List.length_append]; omega)) (Ok.bde (wall_v (by rw [List.length_append, List.length_append, List.length_append]; simp only [wallT, List.length_cons, List.length_nil]; omega)) ?_)
     simp only [List.flatMap_cons, List.flatMap_nil, List.append_nil, colW] at step
     rw [← List.append_assoc] at step
     exact step
   · rintro again c rfl
     exact Ok.cd (fun h => by have := of_decide_eq_true h; omega) (fun _ => ok_some.2 rfl)
 rintro F2 rfl
 refine ok_some.2 ?_
 unfold facesL
 rw [hTT, hm]
end Go.L

