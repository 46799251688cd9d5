import Derived.Test.YtlpfiiejhikalaaGreatTrkL11s
set_option linter.all false
namespace Go.L
open Go Go.Eng
theorem cdT {α : Type} {b : Bool} {x y : Option α} (h : b = true) : cdO b x y = x := by subst h; rfl
theorem cdF {α : Type} {b : Bool} {x y : Option α} (h : b = false) : cdO b x y = y := by subst h; rfl
theorem gdT {α : Type} {b : Bool} {x : Option α} (h : b = true) : gdO b x = x := by subst h; rfl
theorem bdS {α β : Type} {x : Option α} {v : α} {f : α -> Option β} (h : x = some v) : bdO x f = f v := by subst h; rfl
theorem wD {n : Nat} {f : (Int -> Option Int) -> Int -> Option Int} {D : List Int} {p : Int -> Bool} {J : Nat} (hJ : J < D.length) (hl : D.length <= 1000) (hn : 2000 < n)
  (st1 : ∀ again (i : Nat), i < D.length -> i <= J -> p (gt D (i : Int)) = true -> f again i = again ((i + 1 : Nat) : Int))
  (st2 : ∀ again (i : Nat), i < D.length -> i <= J -> p (gt D (i : Int)) = false -> f again i = some (i : Int))
  (st3 : ∀ again (i : Nat), i <= 1001 -> ¬ i <= J -> f again i = some (i : Int)) {i0 : Nat} (hi : i0 <= 1001) : aP n f (i0 : Int) = some ((Sort.scanUp p D.toArray J i0 : Nat) : Int) := by
 apply Ok.eq
 generalize htar : Sort.scanUp p D.toArray J i0 = tar
 refine bI (fun x : Int => ∃ i : Nat, x = i /\ i <= 1001 /\ Sort.scanUp p D.toArray J i = tar) (fun x => 1002 - x.toNat) ?_ n _ ⟨i0, rfl, hi, htar⟩ (by first | omega | (dsimp only; omega))
 rintro again x ⟨i, rfl, hi, ht⟩ ih
 rw [Sort.scanUp, dh] at ht
 by_cases h : i <= J
 · rw [decide_eq_true h, Bool.true_and] at ht
   cases hp : p (gt D (i : Int)) with
   | true =>
    rw [hp, if_pos rfl] at ht
    rw [st1 again i (by omega) h hp]
    exact ih _ ⟨i + 1, rfl, by omega, ht⟩ (by first | omega | (dsimp only; omega))
   | false =>
    rw [hp, if_neg (by simp)] at ht
    rw [st2 again i (by omega) h hp]
    exact aw.2 (by rw [ht])
 · rw [decide_eq_false h, Bool.false_and, if_neg (by simp)] at ht
   rw [st3 again i (by omega) h]
   exact aw.2 (by rw [ht])
theorem xl {n : Nat} {f : (Int -> Option Int) -> Int -> Option Int} {D : List Int} {p : Int -> Bool} {I : Nat} (hI : 1 <= I) (hl : D.length <= 1000) (hn : 2000 < n)
  (st1 : ∀ again (m : Nat), m + 1 < D.length -> I <= m + 1 -> p (gt D ((m + 1 : Nat) : Int)) = true -> f again ((m + 1 : Nat) : Int) = again (m : Int))
  (st2 : ∀ again (m : Nat), m + 1 < D.length -> I <= m + 1 -> p (gt D ((m + 1 : Nat) : Int)) = false -> f again ((m + 1 : Nat) : Int) = some ((m + 1 : Nat) : Int))
  (st3 : ∀ again (m : Nat), m < D.length -> ¬ I <= m -> f again (m : Int) = some (m : Int)) {j0 : Nat} (hj : j0 < D.length) : aP n f (j0 : Int) = some ((Sort.scanDown p D.toArray I j0 : Nat) : Int) := by
 apply Ok.eq
 generalize htar : Sort.scanDown p D.toArray I j0 = tar
 refine bI (fun x : Int => ∃ j : Nat, x = j /\ j < D.length /\ Sort.scanDown p D.toArray I j = tar) (fun x => x.toNat) ?_ n _ ⟨j0, rfl, hj, htar⟩ (by first | omega | (dsimp only; omega))
 rintro again x ⟨j, rfl, hj, ht⟩ ih
 rcases j with _ | m
 · rw [st3 again 0 (by omega) (by omega)]
   rw [Sort.scanDown] at ht
   exact aw.2 (by rw [<- ht])
 · rw [Sort.scanDown, dh] at ht
   by_cases h : I <= m + 1
   · rw [decide_eq_true h, Bool.true_and] at ht
     cases hp : p (gt D ((m + 1 : Nat) : Int)) with
     | true =>
      rw [hp, if_pos rfl] at ht
      rw [st1 again m (by omega) h hp]
      exact ih _ ⟨m, rfl, by omega, ht⟩ (by first | omega | (dsimp only; omega))
     | false =>
      rw [hp, if_neg (by simp)] at ht
      rw [st2 again m (by omega) h hp]
      exact aw.2 (by rw [ht])
   · rw [decide_eq_false h, Bool.false_and, if_neg (by simp)] at ht
     rw [st3 again (m + 1) (by omega) h]
     exact aw.2 (by rw [ht])
section
variable {n : Nat} {d : List Int} {a b pv : Nat}
theorem upP {D : List Int} {J : Nat} (ha : a < D.length) (hJ : J < D.length) (hl : D.length <= 1000) (hn : 2000 < n) {i0 : Nat} (hi : i0 <= 1001) :
  aP n (fun again (i : Int) => cdO (decide (i <= (J : Int))) (gdO (inR i D.length) (gdO (inR (a : Int) D.length) (bdO (aY n (gt D i) (gt D (a : Int))) fun v => cdO v (again (Ew (i + 1))) (some i)))) (some i)) (i0 : Int) = some ((Sort.scanUp (fun x => ltI x D.toArray[a]!) D.toArray J i0 : Nat) : Int) := by
 refine wD hJ hl hn (fun again i h1 h2 hp => ?_) (fun again i h1 h2 hp => ?_) (fun again i h1 h2 => ?_) hi
 · rw [dh] at hp
   rw [cdT (decide_eq_true (by omega)), gdT (by rw [aJ]; exact decide_eq_true h1), gdT (by rw [aJ]; exact decide_eq_true ha), bdS (gO n _ _), cdT hp, eu (by omega)]
 · rw [dh] at hp
   rw [cdT (decide_eq_true (by omega)), gdT (by rw [aJ]; exact decide_eq_true h1), gdT (by rw [aJ]; exact decide_eq_true ha), bdS (gO n _ _), cdF hp]
 · rw [cdF (decide_eq_false (by omega))]
theorem AS {D : List Int} {I : Nat} (ha : a < D.length) (hI : 1 <= I) (hl : D.length <= 1000) (hn : 2000 < n) {j0 : Nat} (hj : j0 < D.length) :
  aP n (fun again (j : Int) => cdO (decide ((I : Int) <= j)) (gdO (inR j D.length) (gdO (inR (a : Int) D.length) (bdO (aY n (gt D j) (gt D (a : Int))) fun v => cdO (!v) (again (Ew (j - 1))) (some j)))) (some j)) (j0 : Int) = some ((Sort.scanDown (fun x => !ltI x D.toArray[a]!) D.toArray I j0 : Nat) : Int) := by
 refine xl hI hl hn (fun again i h1 h2 hp => ?_) (fun again i h1 h2 hp => ?_) (fun again i h1 h2 => ?_) hj
 · rw [dh] at hp
   rw [cdT (decide_eq_true (by omega)), gdT (by rw [aJ]; exact decide_eq_true h1), gdT (by rw [aJ]; exact decide_eq_true ha), bdS (gO n _ _), cdT hp, sW (by omega)]
 · rw [dh] at hp
   rw [cdT (decide_eq_true (by omega)), gdT (by rw [aJ]; exact decide_eq_true h1), gdT (by rw [aJ]; exact decide_eq_true ha), bdS (gO n _ _), cdF hp]
 · rw [cdF (decide_eq_false (by omega))]
theorem upE {D : List Int} {J : Nat} (ha : a < D.length) (hJ : J < D.length) (hl : D.length <= 1000) (hn : 2000 < n) {i0 : Nat} (hi : i0 <= 1001) :
  aP n (fun again (i : Int) => cdO (decide (i <= (J : Int))) (gdO (inR (a : Int) D.length) (gdO (inR i D.length) (bdO (aY n (gt D (a : Int)) (gt D i)) fun v => cdO (!v) (again (Ew (i + 1))) (some i)))) (some i)) (i0 : Int) = some ((Sort.scanUp (fun x => !ltI D.toArray[a]! x) D.toArray J i0 : Nat) : Int) := by
 refine wD hJ hl hn (fun again i h1 h2 hp => ?_) (fun again i h1 h2 hp => ?_) (fun again i h1 h2 => ?_) hi
 · rw [dh] at hp
   rw [cdT (decide_eq_true (by omega)), gdT (by rw [aJ]; exact decide_eq_true ha), gdT (by rw [aJ]; exact decide_eq_true h1), bdS (gO n _ _), cdT hp, eu (by omega)]
 · rw [dh] at hp
   rw [cdT (decide_eq_true (by omega)), gdT (by rw [aJ]; exact decide_eq_true ha), gdT (by rw [aJ]; exact decide_eq_true h1), bdS (gO n _ _), cdF hp]
 · rw [cdF (decide_eq_false (by omega))]
theorem Cj {D : List Int} {I : Nat} (ha : a < D.length) (hI : 1 <= I) (hl : D.length <= 1000) (hn : 2000 < n) {j0 : Nat} (hj : j0 < D.length) :
  aP n (fun again (j : Int) => cdO (decide ((I : Int) <= j)) (gdO (inR (a : Int) D.length) (gdO (inR j D.length) (bdO (aY n (gt D (a : Int)) (gt D j)) fun v => cdO v (again (Ew (j - 1))) (some j)))) (some j)) (j0 : Int) = some ((Sort.scanDown (fun x => ltI D.toArray[a]! x) D.toArray I j0 : Nat) : Int) := by
 refine xl hI hl hn (fun again i h1 h2 hp => ?_) (fun again i h1 h2 hp => ?_) (fun again i h1 h2 => ?_) hj
 · rw [dh] at hp
   rw [cdT (decide_eq_true (by omega)), gdT (by rw [aJ]; exact decide_eq_true ha), gdT (by rw [aJ]; exact decide_eq_true h1), bdS (gO n _ _), cdT hp, sW (by omega)]
 · rw [dh] at hp
   rw [cdT (decide_eq_true (by omega)), gdT (by rw [aJ]; exact decide_eq_true ha), gdT (by rw [aJ]; exact decide_eq_true h1), bdS (gO n _ _), cdF hp]
 · rw [cdF (decide_eq_false (by omega))]
theorem Aw (hap : a <= pv) (hpb : pv < b) (hb : b <= d.length) (hl : d.length <= 1000) (hn : 2000 < n) : Ok (bK n d a b pv) (fun r => r.1.length = d.length /\ ∃ m : Nat, r.2 = m /\ (m, r.1.toArray) = Sort.partitionEqual ltI d.toArray a b pv) := by
 unfold bK Sort.partitionEqual
 simp only [Int.toNat_natCast]
 refine Ok.gd (by rw [aJ]; exact decide_eq_true (by omega)) (Ok.gd (by rw [aJ]; exact decide_eq_true (by omega)) ?_)
 rw [<- ie]
 have hD : ((d.set a (gt d (pv : Int))).set pv (gt d (a : Int))).length = d.length := by simp
 generalize (d.set a (gt d (pv : Int))).set pv (gt d (a : Int)) = D at hD
 rw [eu (by omega), wrap64_in (n := (b : Int) - 1) (by omega) (by omega)]
 generalize htar : Sort.partEqLoop ltI a (a + 1) (b - 1) D.toArray = tar
 refine Ok.bd (R := fun r : List Int × Int => r.1.length = d.length /\ ∃ m : Nat, r.2 = m /\ (m, r.1.toArray) = tar) ?_ (by rintro ⟨r, m⟩ h; exact aw.2 h)
 refine bI (fun s : List Int × Int × Int => ∃ i j : Nat, s.2.1 = i /\ s.2.2 = j /\ a < i /\ i <= 1001 /\ j < b /\ s.1.length = d.length /\ Sort.partEqLoop ltI a i j s.1.toArray = tar) (fun s => (s.2.2 + 1 - s.2.1).toNat) ?_ n (D, _, _) ⟨a + 1, b - 1, rfl, by dsimp only; omega, by omega, by omega, by omega, hD, htar⟩ (by first | omega | (dsimp only; omega))
 rintro again ⟨d1, x, y⟩ ⟨i, j, hx, hy, hai, hij, hjb, hd1, ht1⟩ ih
 dsimp only at hx hy hd1 ht1 ⊢
 subst hx; subst hy
 rw [Sort.partEqLoop_eq] at ht1
 refine Ok.bde (upE (a := a) (D := d1) (J := j) (by omega) (by omega) (by omega) hn (i0 := i) (by omega)) ?_
 have hge := Sort.scanUp_ge (fun x => !ltI d1.toArray[a]! x) d1.toArray j i
 generalize Sort.scanUp (fun x => !ltI d1.toArray[a]! x) d1.toArray j i = i2 at *
 refine Ok.bde (Cj (a := a) (D := d1) (I := i2) (by omega) (by omega) (by omega) hn (j0 := j) (by omega)) ?_
 have hle := Sort.scanDown_le (fun x => ltI d1.toArray[a]! x) d1.toArray i2 j
 generalize Sort.scanDown (fun x => ltI d1.toArray[a]! x) d1.toArray i2 j = j2 at *
 refine Ok.cd (fun h => ?_) (fun h => ?_)
 · have h := dcT h
   rw [if_pos (by omega)] at ht1
   exact aw.2 ⟨hd1, i2, rfl, ht1⟩
 · have h := dcF h
   rw [if_neg (by omega), <- ie] at ht1
   refine Ok.gd (by rw [aJ]; exact decide_eq_true (by omega)) (Ok.gd (by rw [aJ]; exact decide_eq_true (by omega)) ?_)
   rw [eu (by omega), wrap64_in (n := (j2 : Int) - 1) (by omega) (by omega)]
   exact ih (_, ((i2 + 1 : Nat) : Int), (j2 : Int) - 1) ⟨i2 + 1, j2 - 1, rfl, by dsimp only; omega, by omega, by omega, by omega, by simp [hd1], ht1⟩ (by first | omega | (dsimp only; omega))
theorem vh (d : List Int) (i j : Nat) : ((d.set j (gt d (i : Int))).set i (gt d (j : Int))).toArray = Sort.swp d.toArray j i := by
 unfold Sort.swp
 rw [dh, dh]; simp
theorem Al (hap : a <= pv) (hpb : pv < b) (hb : b <= d.length) (hl : d.length <= 1000) (hn : 2000 < n) : Ok (cg n d a b pv) (fun r => r.1.length = d.length /\ ∃ m : Nat, r.2.1 = m /\ (m, r.2.2, r.1.toArray) = Sort.partition ltI d.toArray a b pv) := by
 unfold cg Sort.partition
 simp only [Int.toNat_natCast]
 refine Ok.gd (by rw [aJ]; exact decide_eq_true (by omega)) (Ok.gd (by rw [aJ]; exact decide_eq_true (by omega)) ?_)
 rw [<- ie]
 have hD : ((d.set a (gt d (pv : Int))).set pv (gt d (a : Int))).length = d.length := by simp
 generalize (d.set a (gt d (pv : Int))).set pv (gt d (a : Int)) = D at hD
 have eb : Ew ((b : Int) - 1) = ((b - 1 : Nat) : Int) := by rw [wrap64_in (by omega) (by omega)]; omega
 rw [eu (by omega), eb]
 clear eb
 refine Ok.bde (upP (a := a) (D := D) (J := b - 1) (by omega) (by omega) (by omega) hn (i0 := a + 1) (by omega)) ?_
 have hge := Sort.scanUp_ge (fun x => ltI x D.toArray[a]!) D.toArray (b - 1) (a + 1)
 have hle2 : Sort.scanUp (fun x => ltI x D.toArray[a]!) D.toArray (b - 1) (a + 1) <= 1001 := by
  have := (Sort.scanUp_spec (fun x => ltI x D.toArray[a]!) D.toArray (b - 1) _ (a + 1) rfl).2.1
  omega
 generalize Sort.scanUp (fun x => ltI x D.toArray[a]!) D.toArray (b - 1) (a + 1) = i2 at *
 refine Ok.bde (AS (a := a) (D := D) (I := i2) (by omega) (by omega) (by omega) hn (j0 := b - 1) (by omega)) ?_
 have hle := Sort.scanDown_le (fun x => !ltI x D.toArray[a]!) D.toArray i2 (b - 1)
 generalize Sort.scanDown (fun x => !ltI x D.toArray[a]!) D.toArray i2 (b - 1) = j2 at *
 refine Ok.cd (fun h => ?_) (fun h => ?_)
 · have h := dcT h
   rw [if_pos (by omega)]
   refine Ok.gd (by rw [aJ]; exact decide_eq_true (by omega)) (Ok.gd (by rw [aJ]; exact decide_eq_true (by omega)) ?_)
   simp only [Int.toNat_natCast]
   exact aw.2 ⟨by simp [hD], j2, rfl, by rw [vh]⟩
 · have h := dcF h
   rw [if_neg (by omega), <- ie]
   refine Ok.gd (by rw [aJ]; exact decide_eq_true (by omega)) (Ok.gd (by rw [aJ]; exact decide_eq_true (by omega)) ?_)
   simp only [Int.toNat_natCast]
   have hD2 : ((D.set i2 (gt D (j2 : Int))).set j2 (gt D (i2 : Int))).length = d.length := by simp [hD]
   generalize (D.set i2 (gt D (j2 : Int))).set j2 (gt D (i2 : Int)) = E at hD2
   have ej : Ew ((j2 : Int) - 1) = ((j2 - 1 : Nat) : Int) := by rw [wrap64_in (by omega) (by omega)]; omega
   rw [eu (by omega), ej]
   clear ej
   generalize htar : Sort.partLoop ltI a (i2 + 1) (j2 - 1) E.toArray = tar
   refine Ok.bd (R := fun r : List Int × Int => r.1.length = d.length /\ ∃ m : Nat, r.2 = m /\ m < b /\ (m, r.1.toArray) = tar) ?_ ?_
   · refine bI (fun s : List Int × Int × Int => ∃ i j : Nat, s.2.1 = i /\ s.2.2 = j /\ a < i /\ i <= 1001 /\ j < b /\ s.1.length = d.length /\ Sort.partLoop ltI a i j s.1.toArray = tar) (fun s => (s.2.2 + 1 - s.2.1).toNat) ?_ n (E, _, _) ⟨i2 + 1, j2 - 1, rfl, rfl, by omega, by omega, by omega, hD2, htar⟩ (by first | omega | (dsimp only; omega))
     clear htar hD2 hD
     rintro again ⟨d1, x, y⟩ ⟨i, j, hx, hy, hai, hij, hjb, hd1, ht1⟩ ih
     dsimp only at hx hy hd1 ht1 ⊢
     subst hx; subst hy
     rw [Sort.partLoop_eq] at ht1
     refine Ok.bde (upP (a := a) (D := d1) (J := j) (by omega) (by omega) (by omega) hn (i0 := i) (by omega)) ?_
     have hge := Sort.scanUp_ge (fun x => ltI x d1.toArray[a]!) d1.toArray j i
     generalize Sort.scanUp (fun x => ltI x d1.toArray[a]!) d1.toArray j i = i3 at *
     refine Ok.bde (AS (a := a) (D := d1) (I := i3) (by omega) (by omega) (by omega) hn (j0 := j) (by omega)) ?_
     have hle := Sort.scanDown_le (fun x => !ltI x d1.toArray[a]!) d1.toArray i3 j
     generalize Sort.scanDown (fun x => !ltI x d1.toArray[a]!) d1.toArray i3 j = j3 at *
     refine Ok.cd (fun h => ?_) (fun h => ?_)
     · have h := dcT h
       rw [if_pos (by omega)] at ht1
       exact aw.2 ⟨hd1, j3, rfl, by omega, ht1⟩
     · have h := dcF h
       rw [if_neg (by omega), <- ie] at ht1
       refine Ok.gd (by rw [aJ]; exact decide_eq_true (by omega)) (Ok.gd (by rw [aJ]; exact decide_eq_true (by omega)) ?_)
       rw [eu (by omega), wrap64_in (n := (j3 : Int) - 1) (by omega) (by omega)]
       simp only [Int.toNat_natCast]
       exact ih (_, ((i3 + 1 : Nat) : Int), (j3 : Int) - 1) ⟨i3 + 1, j3 - 1, rfl, by dsimp only; omega, by omega, by omega, by omega, by simp [hd1], ht1⟩ (by first | omega | (dsimp only; omega))
   · rintro ⟨r, x⟩ ⟨hr, m, hm, hmb, he⟩
     dsimp only at hr hm he ⊢
     subst hm
     refine Ok.gd (by rw [aJ]; exact decide_eq_true (by omega)) (Ok.gd (by rw [aJ]; exact decide_eq_true (by omega)) ?_)
     simp only [Int.toNat_natCast]
     refine aw.2 ⟨by simp [hr], m, rfl, ?_⟩
     rw [vh, <- he]
end
end Go.L


set_option linter.all false
namespace Go.L
open Go Go.Eng
theorem ju {m : Nat} (h1 : 1 <= m) (h : m <= 100000) : Ew ((m : Int) - 1) = ((m - 1 : Nat) : Int) := by rw [wrap64_in (by omega) (by omega)]; omega
section
variable {n : Nat} {d : List Int} {a b : Nat}
theorem Cy {D : List Int} (hb : b <= D.length) (hl : D.length <= 1000) (hn : 2000 < n) {i0 : Nat} (h1 : 1 <= i0) (hi : i0 <= 1001) :
  aP n (fun again (i : Int) => cdO (decide (i < (b : Int))) (gdO (inR i D.length) (gdO (inR (Ew (i - 1)) D.length) (bdO (aY n (gt D i) (gt D (Ew (i - 1)))) fun v => cdO (!v) (again (Ew (i + 1))) (some i)))) (some i)) (i0 : Int) = some ((Sort.scanSorted ltI D.toArray b i0 : Nat) : Int) := by
 apply Ok.eq
 generalize htar : Sort.scanSorted ltI D.toArray b i0 = tar
 refine bI (fun x : Int => ∃ i : Nat, x = i /\ 1 <= i /\ i <= 1001 /\ Sort.scanSorted ltI D.toArray b i = tar) (fun x => 1002 - x.toNat) ?_ n _ ⟨i0, rfl, h1, hi, htar⟩ (by first | omega | (dsimp only; omega))
 rintro again x ⟨i, rfl, h1, hi, ht⟩ ih
 rw [Sort.scanSorted, dh, dh] at ht
 rw [ju h1 (by omega), eu (by omega)]
 refine Ok.cd (fun h => ?_) (fun h => ?_)
 · have h := dcT h
   have h : i < b := by omega
   rw [decide_eq_true h, Bool.true_and] at ht
   refine Ok.gd (by rw [aJ]; exact decide_eq_true (by omega)) (Ok.gd (by rw [aJ]; exact decide_eq_true (by omega)) ?_)
   refine Ok.bde (gO n _ _) ?_
   refine Ok.cd (fun hp => ?_) (fun hp => ?_)
   · rw [hp, if_pos rfl] at ht
     exact ih _ ⟨i + 1, rfl, by omega, by omega, ht⟩ (by first | omega | (dsimp only; omega))
   · rw [hp, if_neg (by simp)] at ht
     exact aw.2 (by rw [ht])
 · have h := dcF h
   have h : ¬ i < b := by omega
   rw [decide_eq_false h, Bool.false_and, if_neg (by simp)] at ht
   exact aw.2 (by rw [ht])
theorem Bq (hab : a < b) (hb : b <= d.length) (hl : d.length <= 1000) (hn : 2000 < n) : Ok (bq n d a b) (fun r => r.1.length = d.length /\ (r.1.toArray, r.2) = Sort.partialInsertionSort ltI d.toArray a b) := by
 unfold bq Sort.partialInsertionSort
 rw [eu (by omega)]
 generalize htar : Sort.partialIns ltI a b 5 (a + 1) d.toArray = tar
 refine Ok.bd (R := fun o : Sum (List Int) (List Int × Bool) => match o with | .inl r => r.length = d.length /\ (r.toArray, false) = tar | .inr r => r.1.length = d.length /\ (r.1.toArray, r.2) = tar) ?_ (by
  rintro (r | r) h
  · exact aw.2 h
  · exact aw.2 h)
 refine bI (fun s : List Int × Int × Int => ∃ i s' : Nat, s.2.1 = i /\ s.2.2 = 5 - (s' : Int) /\ s' <= 5 /\ a < i /\ i <= b /\ s.1.length = d.length /\ Sort.partialIns ltI a b s' i s.1.toArray = tar) (fun s => (5 - s.2.2).toNat) ?_ n (d, _, _) ⟨a + 1, 5, rfl, by dsimp only; omega, by omega, by omega, by omega, rfl, htar⟩ (by first | omega | (dsimp only; omega))
 clear htar
 rintro again ⟨d1, x, y⟩ ⟨i, s, hx, hy, hs, hai, hib, hd1, ht1⟩ ih
 dsimp only at hx hy hd1 ht1 ⊢
 subst hx; subst hy
 rcases s with _ | s
 · refine Ok.cd (fun h => by have := dcT h; omega) (fun h => aw.2 ?_)
   rw [Sort.partialIns] at ht1
   exact ⟨hd1, ht1⟩
 · rw [Sort.partialIns_succ] at ht1
   have hdec : Ew ((5 - ((s + 1 : Nat) : Int)) + 1) = 5 - (s : Int) := by rw [wrap64_in (by omega) (by omega)]; omega
   rw [hdec]
   refine Ok.cd (fun h => ?_) (fun h => by have := dcF h; omega)
   clear h hdec
   refine Ok.bde (Cy (D := d1) (b := b) (by omega) (by omega) hn (i0 := i) (by omega) (by omega)) ?_
   have hsp : i <= Sort.scanSorted ltI d1.toArray b i /\ Sort.scanSorted ltI d1.toArray b i <= b := by
    have key : ∀ m i : Nat, b - i = m -> i <= b -> i <= Sort.scanSorted ltI d1.toArray b i /\ Sort.scanSorted ltI d1.toArray b i <= b := by
     intro m
     induction m with
     | zero => intro i hm hib; rw [Sort.scanSorted, if_neg (by simp; omega)]; omega
     | succ m IH =>
      intro i hm hib
      rw [Sort.scanSorted]
      split
      · have := IH (i + 1) (by omega) (by omega); omega
      · omega
    exact key _ i rfl hib
   generalize Sort.scanSorted ltI d1.toArray b i = i2 at *
   refine Ok.cd (fun h => ?_) (fun h => ?_)
   · have h : i2 = b := by have := dcT h; omega
     rw [if_pos h] at ht1
     exact aw.2 ⟨hd1, ht1⟩
   · have h : ¬ i2 = b := by have := dcF h; omega
     rw [if_neg h] at ht1
     have e1 : Ew ((b : Int) - (a : Int)) = ((b - a : Nat) : Int) := by rw [wrap64_in (by omega) (by omega)]; omega
     have e2 : Ew ((i2 : Int) - (a : Int)) = ((i2 - a : Nat) : Int) := by rw [wrap64_in (by omega) (by omega)]; omega
     have e3 : Ew ((b : Int) - (i2 : Int)) = ((b - i2 : Nat) : Int) := by rw [wrap64_in (by omega) (by omega)]; omega
     rw [e1, e2, e3, ju (by omega) (by omega), eu (m := i2) (by omega)]
     clear e1 e2 e3
     refine Ok.cd (fun h5 => ?_) (fun h5 => ?_)
     · have h5 := dcT h5
       rw [if_pos (by omega)] at ht1
       exact aw.2 ⟨hd1, ht1⟩
     · have h5 := dcF h5
       rw [if_neg (by omega)] at ht1
       refine Ok.gd (by rw [aJ]; exact decide_eq_true (by omega)) (Ok.gd (by rw [aJ]; exact decide_eq_true (by omega)) ?_)
       simp only [Int.toNat_natCast]
       rw [<- ie] at ht1
       have hE : ((d1.set i2 (gt d1 ((i2 - 1 : Nat) : Int))).set (i2 - 1) (gt d1 (i2 : Int))).length = d.length := by simp [hd1]
       generalize (d1.set i2 (gt d1 ((i2 - 1 : Nat) : Int))).set (i2 - 1) (gt d1 (i2 : Int)) = E at hE ht1
       generalize hF : Sort.fixDown ltI a i2 E.toArray = F at ht1
       refine Ok.bd (R := fun r : List Int => r.length = d.length /\ r.toArray = F) ?_ ?_
       · unfold Sort.fixDown at hF
         refine Ok.cd (fun h6 => ?_) (fun h6 => ?_)
         · have h6 := dcT h6
           rw [if_pos (by omega)] at hF
           refine Ok.bd (R := fun r : List Int => r.length = d.length /\ r.toArray = F) ?_ (fun r h => aw.2 h)
           refine bI (fun s : List Int × Int => ∃ j : Nat, s.2 = j /\ j < d.length /\ s.1.length = d.length /\ Sort.shiftDown ltI j s.1.toArray = F) (fun s => s.2.toNat) ?_ n (E, _) ⟨i2 - 1, rfl, by omega, hE, hF⟩ (by first | omega | (dsimp only; omega))
           clear ht1 hF hE h6 h5 h
           rintro again2 ⟨d2, x⟩ ⟨j, rfl, hj, hd2, ht2⟩ ih2
           dsimp only at hd2 ht2 ⊢
           rcases j with _ | m
           · refine Ok.cd (fun h => by have := dcT h; omega) (fun _ => aw.2 ⟨hd2, ?_⟩)
             rw [Sort.shiftDown] at ht2; exact ht2
           · rw [Sort.shiftDown, dh, dh] at ht2
             rw [sW (by omega)]
             refine Ok.cd (fun hc => ?_) (fun hc => by have := dcF hc; omega)
             refine Ok.gd (by rw [aJ]; exact decide_eq_true (by omega)) (Ok.gd (by rw [aJ]; exact decide_eq_true (by omega)) ?_)
             refine Ok.bde (gO n _ _) ?_
             refine Ok.cd (fun hlt2 => ?_) (fun hlt2 => ?_)
             · rw [if_pos hlt2] at ht2
               exact aw.2 ⟨hd2, ht2⟩
             · rw [if_neg (by rw [hlt2]; simp), <- ie] at ht2
               simp only [Int.toNat_natCast]
               exact ih2 (_, (m : Int)) ⟨m, rfl, by omega, by simp [hd2], ht2⟩ (by first | omega | (dsimp only; omega))
         · have h6 := dcF h6
           rw [if_neg (by omega)] at hF
           exact aw.2 ⟨hE, hF⟩
       · rintro G ⟨hG, rfl⟩
         clear hF hE
         generalize hF : Sort.fixUp ltI b i2 G.toArray = F at ht1
         unfold Sort.fixUp at hF
         refine Ok.cd (fun h6 => ?_) (fun h6 => ?_)
         · have h6 := dcT h6
           rw [if_pos (by omega)] at hF
           refine Ok.bd (R := fun r : List Int => r.length = d.length /\ r.toArray = F) ?_ ?_
           · refine bI (fun s : List Int × Int => ∃ j : Nat, s.2 = j /\ 1 <= j /\ j <= 1001 /\ s.1.length = d.length /\ Sort.shiftUp ltI b j s.1.toArray = F) (fun s => b - s.2.toNat) ?_ n (G, _) ⟨i2 + 1, rfl, by omega, by omega, hG, hF⟩ (by first | omega | (dsimp only; omega))
             clear ht1 hF h6 h5 h ih
             rintro again2 ⟨d2, x⟩ ⟨j, rfl, hj1, hj, hd2, ht2⟩ ih2
             dsimp only at hd2 ht2 ⊢
             rw [Sort.shiftUp, dh, dh] at ht2
             rw [ju hj1 (by omega), eu (m := j) (by omega)]
             refine Ok.cd (fun hc => ?_) (fun hc => ?_)
             · have hc := dcT hc
               rw [if_pos (by omega)] at ht2
               refine Ok.gd (by rw [aJ]; exact decide_eq_true (by omega)) (Ok.gd (by rw [aJ]; exact decide_eq_true (by omega)) ?_)
               refine Ok.bde (gO n _ _) ?_
               refine Ok.cd (fun hlt2 => ?_) (fun hlt2 => ?_)
               · rw [if_pos hlt2] at ht2
                 exact aw.2 ⟨hd2, ht2⟩
               · rw [if_neg (by rw [hlt2]; simp), <- ie] at ht2
                 simp only [Int.toNat_natCast]
                 exact ih2 (_, ((j + 1 : Nat) : Int)) ⟨j + 1, rfl, by omega, by omega, by simp [hd2], ht2⟩ (by first | omega | (dsimp only; omega))
             · have hc := dcF hc
               rw [if_neg (by omega)] at ht2
               exact aw.2 ⟨hd2, ht2⟩
           · rintro H ⟨hH, rfl⟩
             exact ih (H, (i2 : Int), 5 - (s : Int)) ⟨i2, s, rfl, rfl, by omega, by omega, by omega, hH, ht1⟩ (by first | omega | (dsimp only; omega))
         · have h6 := dcF h6
           rw [if_neg (by omega)] at hF
           subst hF
           exact ih (G, (i2 : Int), 5 - (s : Int)) ⟨i2, s, rfl, rfl, by omega, by omega, by omega, hG, ht1⟩ (by first | omega | (dsimp only; omega))
end
end Go.L

