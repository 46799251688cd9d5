import Derived.Test.YtiicieaabeamoaaGreatVerL55x
set_option linter.all false
namespace Go.L
open Go Go.Eng
theorem compZ_v {n : Nat} {s : List Int} (hl : s.length ≤ 1024) (hn : 1024 < n) : slices_Compact_int_int_w n s = some (kpZ s s.length) := by
 apply Ok.eq
 have kp0 : kpZ s 1 = [s.getD 0 default] := by simp [kpZ]
 unfold slices_Compact_int_int_w
 refine Ok.cd (fun h => ok_some.2 ?_) (fun h => ?_)
 · have h := of_decide_eq_true h
   match s, h with
   | [], _ => rfl
   | [a], _ => simp [kpZ]
   | a :: b :: s, h => simp at h; omega
 · have h2 : 2 ≤ s.length := by have := of_decide_eq_false h; omega
   refine Ok.bd (R := fun o => match o with | .inl _ => s = kpZ s s.length | .inr r => r = kpZ s s.length) ?_ (fun o ho => by cases o <;> exact ok_some.2 ho)
   refine ok_loop (fun x : Int => ∃ k : Nat, x = k ∧ 1 ≤ k ∧ k ≤ s.length ∧ kpZ s k = s.take k) (fun x => s.length - x.toNat) ?_ n 1 ⟨1, rfl, by omega, by omega, by rw [kp0, takeS (by omega)]; rfl⟩ (by simp; omega)
   rintro again x ⟨k, rfl, h1, hk, hP⟩ ih
   refine Ok.cd (fun hlt => ?_) (fun hge => ?_)
   · have hlt : k < s.length := by have := of_decide_eq_true hlt; omega
     have ek : ((k : Int) - 1) = ((k - 1 : Nat) : Int) := by omega
     rw [wrap64_in (n := (k : Int) - 1) (by omega) (by omega), ek, inR_nat, inR_nat, gt_nat, gt_nat]
     refine Ok.gd (decide_eq_true hlt) (Ok.gd (decide_eq_true (by omega)) ?_)
     refine Ok.cd (fun he => ?_) (fun he => ?_)
     · have he := beq_iff_eq.1 he
       have hP1 : kpZ s (k + 1) = s.take k := by
        rw [kpZ, if_neg (fun h => h.elim (by omega) (fun h => h he)), hP]
       refine Ok.gd (by rw [inS_iff]; omega) ?_
       have ekn : ((k : Int)).toNat = k := by omega
       rw [ekn]
       refine Ok.bd (R := fun o => o.1.length = s.length ∧ (o.2 : Int) = ((kpZ s s.length).length : Nat) ∧ o.1.take (kpZ s s.length).length = kpZ s s.length) ?_ ?_
       · refine ok_loop (fun q : List Int × Int × Int => ∃ m : Nat, q.2.2 = m ∧ 1 ≤ m ∧ k + m ≤ s.length ∧ q.1.length = s.length ∧ q.2.1 = ((kpZ s (k + m)).length : Nat) ∧ (kpZ s (k + m)).length ≤ k + m - 1 ∧ q.1.take (kpZ s (k + m)).length = kpZ s (k + m) ∧ ∀ j, (kpZ s (k + m)).length ≤ j → q.1.getD j default = s.getD j default) (fun q => s.length - q.2.2.toNat) ?_ n _ ?_ ?_
         · rintro again2 ⟨b, x, y⟩ ⟨m, hm, m1, mk, bl, hx, hle, ht, hg⟩ ih2
           dsimp only at hm bl hx ht hg
           subst hm hx
           dsimp only
           have e1 : ((s.length - k : Nat) : Int) = (s.length : Int) - k := by omega
           refine Ok.cd (fun hlt2 => ?_) (fun hge2 => ?_)
           · have hlt2 : k + m < s.length := by have := of_decide_eq_true hlt2; omega
             have em : ((m : Int)).toNat = m := by omega
             have em1 : ((m : Int) - 1) = ((m - 1 : Nat) : Int) := by omega
             have em1n : (((m - 1 : Nat) : Int)).toNat = m - 1 := by omega
             rw [wrap64_in (n := (m : Int) - 1) (by omega) (by omega), em1, em, em1n, inR_nat, inR_nat, inR_nat, inR_nat, gt_nat, gt_nat]
             refine Ok.gd (decide_eq_true (by omega)) (Ok.gd (decide_eq_true (by omega)) (Ok.gd (decide_eq_true (by omega)) (Ok.gd (decide_eq_true (by omega)) ?_)))
             have g1 := hg (k + m) (by omega)
             have g2 := hg (k + (m - 1)) (by omega)
             rw [g1, g2]
             have ekm : k + (m - 1) = k + m - 1 := by omega
             rw [ekm]
             have hw : wrapF .i64 ((m : Int) + 1) = ((m + 1 : Nat) : Int) := by rw [wrap64_in (by omega) (by omega)]; omega
             rw [hw]
             clear hw
             refine Ok.cd (fun hn => ?_) (fun hn => ?_)
             · have hn : s.getD (k + m) default ≠ s.getD (k + m - 1) default := by simpa using hn
               have hK : kpZ s (k + (m + 1)) = kpZ s (k + m) ++ [s.getD (k + m) default] := by
                rw [← Nat.add_assoc, kpZ, if_pos (.inr hn)]
               have hw2 : wrapF .i64 ((((kpZ s (k + m)).length : Nat) : Int) + 1) = (((kpZ s (k + m)).length + 1 : Nat) : Int) := by rw [wrap64_in (by omega) (by omega)]; omega
               rw [hw2]
               clear hw2
               refine Ok.gd (decide_eq_true (by omega)) ?_
               have en : ((((kpZ s (k + m)).length : Nat) : Int)).toNat = (kpZ s (k + m)).length := by omega
               rw [en]
               refine ih2 _ ⟨m + 1, rfl, by omega, by omega, by simpa using bl, by rw [hK]; simp, by rw [hK]; simp; omega, ?_, ?_⟩ ?_
               · dsimp only
                 rw [hK, List.length_append, List.length_singleton, takeS (by simp; omega), List.take_set_of_le (by omega), ht]
                 congr 1
                 rw [List.getD_eq_getElem?_getD, List.getElem?_set, if_pos rfl, bl, if_pos (by omega)]; rfl
               · intro j hj
                 dsimp only
                 rw [hK] at hj
                 simp only [List.length_append, List.length_singleton] at hj
                 have := hg j (by omega)
                 simp only [List.getD, List.getElem?_set, if_neg (by omega : ¬ (kpZ s (k + m)).length = j)] at this ⊢
                 exact this
               · show s.length - ((m + 1 : Nat) : Int).toNat < s.length - ((m : Int)).toNat
                 omega
             · have hn : s.getD (k + m) default = s.getD (k + m - 1) default := by simpa using hn
               have hK : kpZ s (k + (m + 1)) = kpZ s (k + m) := by
                rw [← Nat.add_assoc, kpZ, if_neg (fun h => h.elim (by omega) (fun h => h hn))]
               refine ih2 _ ⟨m + 1, rfl, by omega, by omega, bl, by rw [hK], by rw [hK]; omega, by rw [hK]; exact ht, by rw [hK]; exact hg⟩ ?_
               show s.length - ((m + 1 : Nat) : Int).toNat < s.length - ((m : Int)).toNat
               omega
           · have hge2 := of_decide_eq_false hge2
             have e : k + m = s.length := by omega
             rw [e] at ht
             refine ok_some.2 ⟨bl, ?_, ht⟩
             dsimp only
             rw [e]
         · exact ⟨1, rfl, by omega, by omega, rfl, by show (k : Int) = _; rw [hP1, List.length_take, Nat.min_eq_left (by omega)], by rw [hP1, List.length_take]; omega, by rw [hP1, List.length_take, Nat.min_eq_left (by omega)], fun j hj => rfl⟩
         · show s.length - 1 < n
           omega
       · rintro ⟨b, x⟩ ⟨bl, hx, ht⟩
         dsimp only at bl hx ht
         subst hx
         dsimp only
         have hK := kpZ_len (s := s) s.length
         refine Ok.gd (by rw [inS_iff]; omega) (Ok.gd (by rw [inS_iff]; omega) (ok_some.2 ?_))
         have en : ((((kpZ s s.length).length : Nat) : Int)).toNat = (kpZ s s.length).length := by omega
         rw [en, overT_eq (by simp; omega)]
         show List.take _ _ = _
         rw [List.append_assoc, List.take_append_of_le_length (by rw [List.length_take]; omega), List.take_take, Nat.min_self]
         exact ht
     · have he := beq_eq_false_iff_ne.1 he
       have hw : wrapF .i64 ((k : Int) + 1) = ((k + 1 : Nat) : Int) := by rw [wrap64_in (by omega) (by omega)]; omega
       rw [hw]
       clear hw
       refine ih _ ⟨k + 1, rfl, by omega, by omega, ?_⟩ (by omega)
       rw [kpZ, if_pos (.inr he), hP, takeS hlt]
   · have hge := of_decide_eq_false hge
     have e : k = s.length := by omega
     subst e
     refine ok_some.2 ?_
     show s = _
     rw [hP, List.take_length]
def fltB (N u b : Int) : Bool := decide (b > 0) && decide (b < N * u)
def bnd (u z x : Int) : List Int := [x * u - 2 * z, x * u + 2 * z]
def mk0 (N u z : Int) (xs : List Int) : List Int := [0, N * u] ++ xs.flatMap fun x => (bnd u z x).filter (fltB N u)
def mk1 (N u z : Int) (xs : List Int) : List Int := kpZ (isrt (mk0 N u z xs)) (isrt (mk0 N u z xs)).length
def midsZ (l : List Int) : List Int := (List.range (l.length - 1)).map fun i => (l.getD i default + l.getD (i + 1) default) / 2
def axM (N u z : Int) (xs : List Int) : List Int := isrt (mk1 N u z xs ++ midsZ (mk1 N u z xs))
def nearB (u z x m : Int) : Bool := decide (m - x * u ≤ 2 * z) && decide (-(m - x * u) ≤ 2 * z)
def setZ (u z : Int) (xs : List Int) (m : Int) : Nat := maskN (fun k => nearB u z (xs.getD k default) m) xs.length
def setA (u z : Int) (xs : List Int) (m : Int) : A4 Int := A4.mk ((setZ u z xs m : Nat) : Int) 0 0 0
structure AxIn (N F z : Int) (xs : List Int) : Prop where
 n : 1 ≤ N ∧ N ≤ 1048576
 f : 1 ≤ F ∧ F ≤ 1048576
 z : 0 ≤ z ∧ z ≤ 2199023255552
 l : xs.length ≤ 12
 x : ∀ x ∈ xs, -1048576 ≤ x ∧ x ≤ 1048576
theorem AxIn.nu {N F z : Int} {xs : List Int} (h : AxIn N F z xs) : 0 < N * (4 * F) ∧ N * (4 * F) ≤ 4398046511104 := by
 have := h.n; have := h.f
 refine ⟨Int.mul_pos (by omega) (by omega), ?_⟩
 have := (mul_bound (a := N) (b := 4 * F) (A := 1048576) (B := 4194304) (by omega) (by omega) (by omega) (by omega)).2
 omega
theorem AxIn.xu {N F z : Int} {xs : List Int} (h : AxIn N F z xs) {x : Int} (hx : x ∈ xs) : -4398046511104 ≤ x * (4 * F) ∧ x * (4 * F) ≤ 4398046511104 := by
 have := h.x x hx; have := h.f
 have := mul_bound (a := x) (b := 4 * F) (A := 1048576) (B := 4194304) (by omega) (by omega) (by omega) (by omega)
 omega
theorem mk0_len (N u z : Int) : ∀ (xs : List Int), (mk0 N u z xs).length ≤ 2 + 2 * xs.length := by
 intro xs
 unfold mk0
 rw [List.length_append]
 have : (xs.flatMap fun x => (bnd u z x).filter (fltB N u)).length ≤ 2 * xs.length := by
  induction xs with
  | nil => simp
  | cons x xs ih =>
   rw [List.flatMap_cons, List.length_append, List.length_cons]
   have := List.length_filter_le (fltB N u) (bnd u z x)
   have : (bnd u z x).length = 2 := rfl
   omega
 have : [0, N * u].length = 2 := rfl
 omega
theorem mk0_in {N u z : Int} {xs : List Int} (h : 0 ≤ N * u) {m : Int} (hm : m ∈ mk0 N u z xs) : 0 ≤ m ∧ m ≤ N * u := by
 unfold mk0 at hm
 rcases List.mem_append.1 hm with hm | hm
 · simp at hm; omega
 · obtain ⟨x, _, hx⟩ := List.mem_flatMap.1 hm
   have := (List.mem_filter.1 hx).2
   unfold fltB at this
   simp at this; omega
theorem sort55_v {n : Nat} {l : List Int} (h : l.length ≤ 1000) : slices_Sort_int_int_w n l = some (isrt l) := by
 unfold slices_Sort_int_int_w
 have : decide (l.length < 4611686018427387904) = true := decide_eq_true (by omega)
 rw [this]; rfl
theorem mem_isrt {l : List Int} {x : Int} : x ∈ isrt l ↔ x ∈ l := (isrt_perm l).mem_iff
theorem len_isrt (l : List Int) : (isrt l).length = l.length := (isrt_perm l).length_eq
theorem isrt_le (l : List Int) : (isrt l).Pairwise fun a b => a ≤ b := (isrt_pw l).imp fun h => of_decide_eq_true h
theorem mk1_ok (N u z : Int) (xs : List Int) : (mk1 N u z xs).Pairwise (fun a b => a < b) ∧ ∀ x, x ∈ mk1 N u z xs ↔ x ∈ mk0 N u z xs := by
 obtain ⟨h1, h2, _⟩ := kpZ_ok (isrt_le (mk0 N u z xs)) (isrt (mk0 N u z xs)).length (Nat.le_refl _)
 refine ⟨h1, fun x => ?_⟩
 unfold mk1
 rw [h2, List.take_length, mem_isrt]
theorem mk1_len (N u z : Int) (xs : List Int) : (mk1 N u z xs).length ≤ 2 + 2 * xs.length := by
 unfold mk1
 have h1 := kpZ_len (s := isrt (mk0 N u z xs)) (isrt (mk0 N u z xs)).length
 have h2 := mk0_len N u z xs
 rw [len_isrt] at h1 ⊢
 omega
theorem mk1_pos (N u z : Int) (xs : List Int) : 0 < (mk1 N u z xs).length := by
 unfold mk1
 refine kpZ_pos _ ?_
 rw [len_isrt]; unfold mk0; simp
theorem midsZ_in {l : List Int} {c : Int} (h : ∀ m ∈ l, 0 ≤ m ∧ m ≤ c) : ∀ m ∈ midsZ l, 0 ≤ m ∧ m ≤ c := by
 intro m hm
 unfold midsZ at hm
 obtain ⟨i, hi, rfl⟩ := List.mem_map.1 hm
 rw [List.mem_range] at hi
 have h1 := h _ (memAt (l := l) (k := i) (by omega))
 have h2 := h _ (memAt (l := l) (k := i + 1) (by omega))
 omega
theorem axM_in {N F z : Int} {xs : List Int} (h : AxIn N F z xs) : ∀ m ∈ axM N (4 * F) z xs, 0 ≤ m ∧ m ≤ N * (4 * F) := by
 have h1 : ∀ m ∈ mk1 N (4 * F) z xs, 0 ≤ m ∧ m ≤ N * (4 * F) := fun m hm => mk0_in (by have := h.nu; omega) (((mk1_ok ..).2 m).1 hm)
 intro m hm
 rcases List.mem_append.1 (mem_isrt.1 hm) with hm | hm
 · exact h1 m hm
 · exact midsZ_in h1 m hm
theorem axM_len (N u z : Int) (xs : List Int) : (axM N u z xs).length ≤ 4 + 4 * xs.length := by
 unfold axM midsZ
 rw [len_isrt, List.length_append, List.length_map, List.length_range]
 have := mk1_len N u z xs
 omega
theorem getD_map {α β : Type} [Inhabited α] [Inhabited β] {f : α → β} {l : List α} {k : Nat} (h : k < l.length) : (l.map f).getD k default = f (l.getD k default) := by
 simp [List.getD, List.getElem?_eq_getElem h]
theorem axis_v {n : Nat} (hn : 2000 ≤ n) {N F z : Int} {xs : List Int} (h : AxIn N F z xs) : plan_axis n N F z xs = some (axM N (4 * F) z xs, (axM N (4 * F) z xs).map (setA (4 * F) z xs)) := by
 have hN := h.n; have hF := h.f; have hz := h.z; have hl := h.l; have hnu := h.nu
 have l0 := mk0_len N (4 * F) z xs
 have l1 := mk1_len N (4 * F) z xs
 have p1 := mk1_pos N (4 * F) z xs
 have lM := axM_len N (4 * F) z xs
 have in1 : ∀ m ∈ mk1 N (4 * F) z xs, 0 ≤ m ∧ m ≤ N * (4 * F) := fun m hm => mk0_in (by omega) (((mk1_ok ..).2 m).1 hm)
 have inM := axM_in h
 apply Ok.eq
 unfold plan_axis
 rw [wrap64_in (n := 4 * F) (by omega) (by omega), wrap64_in (n := 2 * z) (by omega) (by omega), wrap64_in (n := N * (4 * F)) (by omega) (by omega)]
 refine Ok.bd (R := fun o => o = mk0 N (4 * F) z xs) ?_ ?_
 · refine ok_rangeR (len := xs.length) (fun k (c : List Int) => c = mk0 N (4 * F) z (xs.take k)) (by omega) (by omega) (by simp [mk0]) ?_ ?_
   · rintro again k c hk rfl ih
     refine Ok.cd (fun _ => Ok.gd (by rw [inR_nat]; simpa using hk) ?_) (fun h => by simp at h; omega)
     have hx := h.xu (memAt hk)
     have lk := mk0_len N (4 * F) z (xs.take k)
     have ltk : (xs.take k).length = k := by rw [List.length_take]; omega
     rw [gt_nat, wrap64_in (n := xs.getD k default * (4 * F)) (by omega) (by omega), wrap64_in (n := xs.getD k default * (4 * F) - 2 * z) (by omega) (by omega), wrap64_in (n := xs.getD k default * (4 * F) + 2 * z) (by omega) (by omega)]
     refine Ok.bd (R := fun o => o = mk0 N (4 * F) z (xs.take (k + 1))) ?_ (fun o ho => ih _ ho)
     have hbl : (bnd (4 * F) z (xs.getD k default)).length = 2 := rfl
     show Ok (loopO (α := List Int × Int) (β := List Int) n (fun again s => match s with
      | (marks_99, x_100) => cdO (decide (x_100 < 2)) (gdO (inR x_100 (bnd (4 * F) z (xs.getD k default)).length) (bdO (some (gt (bnd (4 * F) z (xs.getD k default)) x_100)) fun w115 => (cdO (decide (w115 > 0)) (cdO (decide (w115 < N * (4 * F))) (gdO (decide ((marks_99.length + 1) * 8 ≤ 140737488355328)) (gdO (decide (marks_99.length + 1 ≤ 4611686018427387904)) (again (marks_99 ++ [w115], wrapF .i64 (x_100 + 1))))) (again (marks_99, wrapF .i64 (x_100 + 1)))) (again (marks_99, wrapF .i64 (x_100 + 1)))))) (some (marks_99))) (mk0 N (4 * F) z (xs.take k), 0)) _
     generalize hb : bnd (4 * F) z (xs.getD k default) = bs at hbl
     have hend : mk0 N (4 * F) z (xs.take (k + 1)) = mk0 N (4 * F) z (xs.take k) ++ bs.filter (fltB N (4 * F)) := by
      unfold mk0
      rw [takeS hk, List.flatMap_append, List.append_assoc]
      congr 2
      simp only [List.flatMap_cons, List.flatMap_nil, List.append_nil]
      rw [hb]
     rw [hend]
     refine ok_rangeR (len := 2) (fun j (c : List Int) => c = mk0 N (4 * F) z (xs.take k) ++ (bs.take j).filter (fltB N (4 * F))) (by omega) (by omega) (by simp) ?_ ?_
     · rintro again2 j c hj rfl ih2
       have lf := List.length_filter_le (fltB N (4 * F)) (bs.take j)
       have lt2 : (bs.take j).length ≤ 2 := by rw [List.length_take]; omega
       refine Ok.cd (fun _ => Ok.gd (by rw [inR_nat]; simp; omega) ?_) (fun h => by simp at h; omega)
       rw [gt_nat]
       refine Ok.bde rfl ?_
       have hs : (bs.take (j + 1)).filter (fltB N (4 * F)) = (bs.take j).filter (fltB N (4 * F)) ++ [bs.getD j default].filter (fltB N (4 * F)) := by rw [takeS (by omega), List.filter_append]
       refine Ok.cd (fun h1 => Ok.cd (fun h2 => ?_) (fun h2 => ?_)) (fun h1 => ?_)
       · refine Ok.gd (decide_eq_true (by rw [List.length_append]; omega)) (Ok.gd (decide_eq_true (by rw [List.length_append]; omega)) (ih2 _ ?_))
         rw [hs, List.filter_cons_of_pos (by unfold fltB; rw [h1, h2]; rfl), List.filter_nil, List.append_assoc]
       · refine ih2 _ ?_
         rw [hs, List.filter_cons_of_neg (by unfold fltB; rw [h1, h2]; decide), List.filter_nil, List.append_nil]
       · refine ih2 _ ?_
         rw [hs, List.filter_cons_of_neg (by unfold fltB; rw [h1]; simp), List.filter_nil, List.append_nil]
     · rintro again2 c rfl
       refine Ok.cd (fun h => by simp at h) (fun _ => ok_some.2 ?_)
       rw [show bs.take 2 = bs from List.take_of_length_le (by omega)]
   · rintro again c rfl
     exact Ok.cd (fun h => by simp at h) (fun _ => ok_some.2 (by rw [List.take_length]))
 · rintro o rfl
   refine Ok.bde (sort55_v (by omega)) (Ok.gd (decide_eq_true (len_isrt _)) ?_)
   refine Ok.bde (b := mk1 N (4 * F) z xs) (compZ_v (by rw [len_isrt]; omega) (by omega)) ?_
   refine Ok.bd (R := fun o => o = mk1 N (4 * F) z xs ++ midsZ (mk1 N (4 * F) z xs)) ?_ ?_
   · rw [wrap64_in (n := ((mk1 N (4 * F) z xs).length : Int) - 1) (by omega) (by omega)]
     generalize mk1 N (4 * F) z xs = C at *
     refine ok_rangeR (len := C.length - 1) (fun k (c : List Int) => c = C ++ (midsZ C).take k) (by omega) (by omega) (by simp) ?_ ?_
     · rintro again k c hk rfl ih
       have hml : (midsZ C).length = C.length - 1 := by simp [midsZ]
       have c1 : (C ++ (midsZ C).take k).getD k default = C.getD k default := by simp only [List.getD]; rw [List.getElem?_append_left (by omega)]
       have c2 : (C ++ (midsZ C).take k).getD (k + 1) default = C.getD (k + 1) default := by simp only [List.getD]; rw [List.getElem?_append_left (by omega)]
       have hlen : (C ++ (midsZ C).take k).length = C.length + k := by rw [List.length_append, List.length_take]; omega
       have i1 := in1 _ (memAt (l := C) (k := k) (by omega))
       have i2 := in1 _ (memAt (l := C) (k := k + 1) (by omega))
       refine Ok.cd (fun _ => ?_) (fun h => by have := of_decide_eq_false h; omega)
       have step := ih (C ++ (midsZ C).take (k + 1)) rfl
       have hw : wrapF .i64 ((k : Int) + 1) = ((k + 1 : Nat) : Int) := w64n (by omega)
       rw [hw] at step ⊢
       clear hw
       rw [inR_nat, inR_nat, gt_nat, gt_nat, c1, c2, hlen]
       refine Ok.gd (decide_eq_true (by omega)) (Ok.gd (decide_eq_true (by omega)) (Ok.gd (decide_eq_true (by omega)) (Ok.gd (decide_eq_true (by omega)) ?_)))
       rw [wrap64_in (n := C.getD k default + C.getD (k + 1) default) (by omega) (by omega), Int.tdiv_eq_ediv_of_nonneg (by omega), wrap64_in (by omega) (by omega)]
       have e : (midsZ C).take (k + 1) = (midsZ C).take k ++ [(C.getD k default + C.getD (k + 1) default) / 2] := by
        rw [takeS (by omega)]
        congr 2
        unfold midsZ
        simp [List.getD, hk]
       rw [e, ← List.append_assoc] at step
       exact step
     · rintro again c rfl
       refine Ok.cd (fun h => by have := of_decide_eq_true h; omega) (fun _ => ok_some.2 ?_)
       rw [List.take_of_length_le (by simp [midsZ])]
   · rintro o rfl
     have hll : (mk1 N (4 * F) z xs ++ midsZ (mk1 N (4 * F) z xs)).length = (axM N (4 * F) z xs).length := by unfold axM; rw [len_isrt]
     refine Ok.bde (b := axM N (4 * F) z xs) (sort55_v (by omega)) (Ok.gd (decide_eq_true hll.symm) ?_)
     rw [hll]
     refine Ok.gd (decide_eq_true (by omega)) (Ok.gd (decide_eq_true (by omega)) (Ok.gd (decide_eq_true (by omega)) ?_))
     generalize axM N (4 * F) z xs = M at *
     have eM : ((M.length : Int)).toNat = M.length := by omega
     rw [eM]
     refine Ok.bd (R := fun o => o = M.map (setA (4 * F) z xs)) ?_ (fun o ho => ok_some.2 (by rw [ho]))
     refine ok_rangeR (len := M.length) (fun k (c : List (A4 Int)) => c.length = M.length ∧ (∀ j, j < k → c.getD j default = setA (4 * F) z xs (M.getD j default)) ∧ (∀ j, k ≤ j → j < M.length → c.getD j default = A4.mk 0 0 0 0)) (by omega) (by omega) ⟨by simp, fun j hj => by omega, fun j _ hj => by simp [List.getD, hj]⟩ ?_ ?_
     · rintro again k c hk ⟨c1, c2, c3⟩ ih
       refine Ok.cd (fun _ => Ok.gd (by rw [inR_nat]; simpa using hk) ?_) (fun h => by simp at h; omega)
       have hm := inM _ (memAt hk)
       rw [gt_nat]
       generalize hmm : M.getD k default = m at hm
       refine Ok.bd (R := fun o => o.length = M.length ∧ o.getD k default = setA (4 * F) z xs m ∧ ∀ j, j ≠ k → o.getD j default = c.getD j default) ?_ ?_
       · refine ok_rangeR (len := xs.length) (fun i (d : List (A4 Int)) => d.length = M.length ∧ d.getD k default = A4.mk ((maskN (fun q => nearB (4 * F) z (xs.getD q default) m) i : Nat) : Int) 0 0 0 ∧ ∀ j, j ≠ k → d.getD j default = c.getD j default) (by omega) (by omega) ⟨c1, c3 k (Nat.le_refl _) hk, fun j _ => rfl⟩ ?_ ?_
         · rintro again2 i d hi ⟨d1, d2, d3⟩ ih2
           refine Ok.cd (fun _ => Ok.gd (by rw [inR_nat]; simpa using hi) ?_) (fun h => by simp at h; omega)
           have hx := h.xu (memAt hi)
           rw [gt_nat, wrap64_in (n := xs.getD i default * (4 * F)) (by omega) (by omega), wrap64_in (n := m - xs.getD i default * (4 * F)) (by omega) (by omega)]
           refine Ok.bde rfl ?_
           rw [wrap64_in (n := 0 - (m - xs.getD i default * (4 * F))) (by omega) (by omega)]
           have hnb : Ok (cdO (decide (m - xs.getD i default * (4 * F) ≤ 2 * z)) (some (decide (0 - (m - xs.getD i default * (4 * F)) ≤ 2 * z))) (some false)) fun o => o = nearB (4 * F) z (xs.getD i default) m := by
            unfold nearB
            refine Ok.cd (fun h => ok_some.2 ?_) (fun h => ok_some.2 ?_)
            · rw [h, Int.zero_sub]; rfl
            · rw [h]; rfl
           refine Ok.bd hnb ?_
           rintro o rfl
           refine Ok.cd (fun hb => ?_) (fun hb => ?_)
           · have t1 : ((i : Int)).tdiv 64 = 0 := by
              rw [Int.tdiv_eq_ediv_of_nonneg (by omega)]; omega
             have t2 : ((i : Int)).tmod 64 = (i : Int) := by
              rw [Int.tmod_eq_emod_of_nonneg (by omega)]; omega
             rw [t1, t2, show wrapF .i64 0 = 0 from rfl, inR_nat, gt_nat, d2]
             refine Ok.gd (decide_eq_true (by omega)) (Ok.gd (by rw [inR_iff]; omega) (Ok.gd (decide_eq_true (by omega)) ?_))
             have ek : ((k : Int)).toNat = k := by omega
             have g : A4.get (A4.mk ((maskN (fun q => nearB (4 * F) z (xs.getD q default) m) i : Nat) : Int) 0 0 0) 0 = ((maskN (fun q => nearB (4 * F) z (xs.getD q default) m) i : Nat) : Int) := rfl
             rw [ek, g, or_v (by omega) (maskN_lt _ i)]
             refine ih2 _ ⟨by simpa using d1, ?_, fun j hj => ?_⟩
             · rw [maskN, hb, if_pos rfl, List.getD_eq_getElem?_getD, List.getElem?_set, if_pos rfl, if_pos (by omega)]; rfl
             · have := d3 j hj
               simp only [List.getD, List.getElem?_set, if_neg (fun e => hj (Eq.symm e) : ¬ k = j)] at this ⊢
               exact this
           · refine ih2 _ ⟨d1, ?_, d3⟩
             rw [maskN, hb]; exact d2
         · rintro again2 d ⟨d1, d2, d3⟩
           exact Ok.cd (fun h => by simp at h) (fun _ => ok_some.2 ⟨d1, d2, d3⟩)
       · rintro o ⟨o1, o2, o3⟩
         refine ih _ ⟨o1, fun j hj => ?_, fun j hj hjl => ?_⟩
         · by_cases e : j = k
           · subst e; rw [o2, hmm]
           · rw [o3 j e]; exact c2 j (by omega)
         · rw [o3 j (by omega)]; exact c3 j (by omega) hjl
     · rintro again c ⟨c1, c2, _⟩
       refine Ok.cd (fun h => by simp at h) (fun _ => ok_some.2 ?_)
       apply List.ext_getElem
       · simp [c1]
       · intro j h1 h2
         have := c2 j (by omega)
         rw [List.getElem_map]
         simpa [List.getD, List.getElem?_eq_getElem h1, List.getElem?_eq_getElem (show j < M.length by omega)] using this
end Go.L

