import Derived.Test.YtkhmlbchphhokaaGreatHulL09j
set_option linter.all false
namespace Go.L
open Go Go.Eng
def AllIn (l : List api_Pix) : Prop := ∀ p, p ∈ l → In p
theorem AllIn.at {l : List api_Pix} (h : AllIn l) {i : Int} (h0 : 0 ≤ i) (h1 : i < l.length) : In (gt l i) := by
 obtain ⟨k, rfl⟩ : ∃ k : Nat, i = k := ⟨i.toNat, by omega⟩
 have hk : k < l.length := by omega
 rw [gt_nat, List.getD_eq_getElem?_getD, List.getElem?_eq_getElem hk]
 exact h _ (List.getElem_mem hk)
def Fs (l : List api_Pix) (x : Int) : Prop := (0 ≤ x ∧ x < l.length) ∧ ∀ y, 0 ≤ y → y < x → gt l y ≠ gt l x
def intsN (m : Nat) : List Int := (List.range m).map fun j : Nat => (j : Int)
theorem mem_ints {m : Nat} {x : Int} : x ∈ intsN m ↔ 0 ≤ x ∧ x < m := by
 unfold intsN; rw [List.mem_map]
 constructor
 · rintro ⟨j, hj, rfl⟩; rw [List.mem_range] at hj; omega
 · rintro ⟨h1, h2⟩; exact ⟨x.toNat, by rw [List.mem_range]; omega, by omega⟩
theorem pw_ints {κ : Int → Int} {m : Nat} (h : ∀ x y : Int, 0 ≤ x → x < (m : Int) → 0 ≤ y → y < (m : Int) → κ x = κ y → x = y) : (intsN m).Pairwise (fun a b => κ a ≠ κ b) := by
 unfold intsN
 rw [List.pairwise_map]
 refine List.Pairwise.imp_of_mem (R := fun a b => a < b) ?_ List.pairwise_lt_range
 intro a b ha hb hab e
 rw [List.mem_range] at ha hb
 have := h a b (by omega) (by omega) (by omega) (by omega) e
 omega
def srtd (l : List api_Pix) : List Int := isrtC (ltK (kap l)) (intsN l.length)
def eqI (l : List api_Pix) (i j : Int) : Bool := ptE (gt l i) (gt l j)
def ordr (l : List api_Pix) : List Int := KP (eqI l) (srtd l) l.length
theorem kap_inj {l : List api_Pix} (hl : l.length ≤ 1024) (x y : Int) (h1 : 0 ≤ x) (h2 : x < l.length) (h3 : 0 ≤ y) (h4 : y < l.length) (e : kap l x = kap l y) : x = y := by
 unfold kap at e; omega
theorem srtd_len (l : List api_Pix) : (srtd l).length = l.length := by unfold srtd intsN; rw [len_isrtC]; simp
theorem mem_srtd {l : List api_Pix} {x : Int} : x ∈ srtd l ↔ 0 ≤ x ∧ x < l.length := by unfold srtd; rw [mem_isrtC, mem_ints]
theorem pw_srtd {l : List api_Pix} (hl : l.length ≤ 1024) : (srtd l).Pairwise (fun a b => kap l a < kap l b) := pw_isrtC (pw_ints (kap_inj hl))
theorem pw_ord {l : List api_Pix} (hl : l.length ≤ 1024) (hI : AllIn l) : (ordr l).Pairwise (fun p q => lfP (gt l p) < lfP (gt l q)) := by
 have := (KP_pw (l := l) (s := srtd l) (fun p hp => hI.at (mem_srtd.1 hp).1 (mem_srtd.1 hp).2) (fun p hp => by have := mem_srtd.1 hp; omega) (fun j hj => pw_at (s := srtd l) (pw_srtd hl) j (j + 1) (by omega) hj) l.length (by rw [srtd_len]; exact Nat.le_refl _)).1
 exact this
theorem ord_mem {l : List api_Pix} (hl : l.length ≤ 1024) (hI : AllIn l) {x : Int} : x ∈ ordr l ↔ Fs l x := by
 have hsl := srtd_len l
 have hpw := pw_srtd hl
 constructor
 · intro h
   obtain ⟨j, hj, rfl, hk⟩ := KP_mem _ h
   have hm := mem_srtd.1 (mem_at (l := srtd l) (k := j) (by omega))
   refine ⟨hm, fun y h0 hy e => ?_⟩
   obtain ⟨i, hi, e2⟩ := at_mem (mem_srtd.2 ⟨h0, by omega⟩ : y ∈ srtd l)
   have hkap : kap l y < kap l ((srtd l).getD j default) := by unfold kap; rw [e]; omega
   have hij : i < j := by
    rcases Nat.lt_trichotomy i j with h | h | h
    · exact h
    · subst h; rw [e2] at hkap; omega
    · have := pw_at (s := srtd l) hpw j i h hi
      rw [e2] at this; omega
   have hk : eqI l ((srtd l).getD j default) ((srtd l).getD (j - 1) default) = false := hk.resolve_left (by omega)
   have h1 : kap l ((srtd l).getD (j - 1) default) < kap l ((srtd l).getD j default) := pw_at (s := srtd l) hpw (j - 1) j (by omega) (by omega)
   have h2 : kap l y ≤ kap l ((srtd l).getD (j - 1) default) := by
    rcases Nat.lt_or_ge i (j - 1) with h | h
    · have := pw_at (s := srtd l) hpw i (j - 1) h (by omega)
      rw [e2] at this; omega
    · have : i = j - 1 := by omega
      rw [← this, e2]; exact Int.le_refl _
   have hm1 := mem_srtd.1 (mem_at (l := srtd l) (k := j - 1) (by omega))
   have : lfP (gt l ((srtd l).getD (j - 1) default)) = lfP (gt l ((srtd l).getD j default)) := by
    unfold kap at h1 h2; rw [e] at h2; omega
   have := lfP_inj (hI.at hm1.1 hm1.2) (hI.at hm.1 hm.2) this
   unfold eqI at hk
   rw [this, ptE_iff.2 rfl] at hk; cases hk
 · rintro ⟨hx, hf⟩
   obtain ⟨j, hj, e⟩ := at_mem (mem_srtd.2 hx)
   rw [← e]
   refine mem_KP ?_ _ (by omega)
   by_cases h0 : j = 0
   · exact .inl h0
   · right
     cases hk : eqI l ((srtd l).getD j default) ((srtd l).getD (j - 1) default) with
     | false => rfl
     | true =>
      have he := ptE_iff.1 hk
      have h1 : kap l ((srtd l).getD (j - 1) default) < kap l ((srtd l).getD j default) := pw_at (s := srtd l) hpw (j - 1) j (by omega) hj
      have hm1 := mem_srtd.1 (mem_at (l := srtd l) (k := j - 1) (by omega))
      unfold kap at h1
      rw [← he, e] at h1
      refine absurd ?_ (hf ((srtd l).getD (j - 1) default) hm1.1 (by omega))
      rw [← he, e]
theorem ord_pos {l : List api_Pix} (h : 0 < l.length) : 0 < (ordr l).length := KP_pos _ h
theorem ord_len (l : List api_Pix) : (ordr l).length ≤ l.length := KP_len _
theorem ints_v {n : Nat} (m : Nat) (hn : m < n) (hm : m ≤ 1024) : loopO (α := List Int × Int) (β := List Int) n (fun again s => match s with
      | (order, x) => cdO (decide (x < ((List.replicate (m : Int).toNat ((0 : Int) : Int)).length : Int))) (gdO (inR x order.length) (again (order.set x.toNat x, wrapF .i64 (x + 1)))) (some order)) (List.replicate (m : Int).toNat ((0 : Int) : Int), 0) = some (intsN m) := by
 apply Ok.eq
 have e0 : (m : Int).toNat = m := by omega
 rw [e0]
 refine ok_rangeR (len := m) (fun k (c : List Int) => c.length = m ∧ ∀ j, j < k → c.getD j default = (j : Int)) hn (by omega) ⟨by simp, by intro j hj; omega⟩ ?_ ?_
 · rintro again k c hk ⟨h1, h2⟩ ih
   refine Ok.cd (fun _ => ?_) (fun h => by simp at h; omega)
   refine Ok.gd (by rw [inR_nat, h1]; simpa using hk) ?_
   refine ih _ ⟨by simpa using h1, fun j hj => ?_⟩
   have e1 : ((k : Int)).toNat = k := by omega
   rw [e1]
   by_cases h : j = k
   · subst h; simp [List.getD, h1, hk]
   · have := h2 j (by omega)
     simp only [List.getD, List.getElem?_set, if_neg (fun e => h (Eq.symm e) : ¬ k = j)] at this ⊢
     exact this
 · rintro again c ⟨h1, h2⟩
   refine Ok.cd (fun h => by simp at h) (fun _ => ok_some.2 ?_)
   unfold intsN
   apply List.ext_getElem
   · simp [h1]
   · intro j hj hj2
     have := h2 j (by omega)
     simpa [List.getD, List.getElem?_eq_getElem hj] using this
theorem sort_v {n : Nat} (h : 4 < n) {l : List api_Pix} (hl : l.length ≤ 1024) (hI : AllIn l) : slices_SortFunc_int_int_w_of_predicate_Hull_1 n (intsN l.length) l = some (srtd l) := by
 unfold slices_SortFunc_int_int_w_of_predicate_Hull_1
 have e : decide ((intsN l.length).length < 4611686018427387904) = true := decide_eq_true (by unfold intsN; simp; omega)
 rw [e]
 show sortC _ _ = _
 exact sortC_key (κ := kap l) (fun x y hx hy => hull1_v h hl hI (mem_ints.1 hx) (mem_ints.1 hy)) (fun x y hx hy e => kap_inj hl x y (mem_ints.1 hx).1 (mem_ints.1 hx).2 (mem_ints.1 hy).1 (mem_ints.1 hy).2 e)
theorem hull2_v {n : Nat} {l : List api_Pix} {i j : Int} (hi : 0 ≤ i ∧ i < l.length) (hj : 0 ≤ j ∧ j < l.length) : predicate_Hull_2 n i j l = some (eqI l i j) := by
 unfold predicate_Hull_2
 rw [inR_iff.2 hi, inR_iff.2 hj]; rfl
theorem take_succ_at {s : List Int} {k : Nat} (hk : k < s.length) : s.take (k + 1) = s.take k ++ [s.getD k default] := by
 rw [List.take_add_one, List.getD_eq_getElem?_getD, List.getElem?_eq_getElem hk]; rfl
theorem compact_v {n : Nat} {l : List api_Pix} {s : List Int} (hl : s.length ≤ 1024) (hn : 1024 < n) (hr : ∀ x, x ∈ s → 0 ≤ x ∧ x < l.length) : slices_CompactFunc_int_int_w_of_predicate_Hull_2 n s l = some (KP (eqI l) s s.length) := by
 apply Ok.eq
 have hat : ∀ k, k < s.length → 0 ≤ s.getD k default ∧ s.getD k default < l.length := fun k hk => hr _ (mem_at hk)
 have kp0 : KP (eqI l) s 1 = [s.getD 0 default] := by simp [KP]
 unfold slices_CompactFunc_int_int_w_of_predicate_Hull_2
 refine Ok.cd (fun h => ok_some.2 ?_) (fun h => ?_)
 · have h := of_decide_eq_true h
   match s, h with
   | [], _ => rfl
   | [a], _ => simp [KP]
   | a :: b :: s, h => simp at h; omega
 · have h2 : 2 ≤ s.length := by have := of_decide_eq_false h; omega
   refine Ok.bd (R := fun o => match o with | .inl _ => s = KP (eqI l) s s.length | .inr r => r = KP (eqI l) s s.length) ?_ (fun o ho => by cases o <;> exact ok_some.2 ho)
   refine ok_loop (fun x : Int => ∃ k : Nat, x = k ∧ 1 ≤ k ∧ k ≤ s.length ∧ KP (eqI l) s k = s.take k) (fun x => s.length - x.toNat) ?_ n 1 ⟨1, rfl, by omega, by omega, by rw [kp0, take_succ_at (by omega)]; rfl⟩ (by simp; omega)
   rintro again x ⟨k, rfl, h1, hk, hP⟩ ih
   refine Ok.cd (fun hlt => ?_) (fun hge => ?_)
   · have hlt : k < s.length := by have := of_decide_eq_true hlt; omega
     have ek : ((k : Int) - 1) = ((k - 1 : Nat) : Int) := by omega
     rw [wrap64_in (n := (k : Int) - 1) (by omega) (by omega), ek, inR_nat, inR_nat, gt_nat, gt_nat]
     refine Ok.gd (decide_eq_true hlt) (Ok.gd (decide_eq_true (by omega)) ?_)
     refine Ok.bde (hull2_v (hat k hlt) (hat (k - 1) (by omega))) ?_
     refine Ok.cd (fun he => ?_) (fun he => ?_)
     · have hP1 : KP (eqI l) s (k + 1) = s.take k := by
        rw [KP, if_neg (by rw [he]; simp; omega), hP]
       refine Ok.gd (by rw [inS_iff]; omega) ?_
       have ekn : ((k : Int)).toNat = k := by omega
       rw [ekn]
       refine Ok.bd (R := fun o => o.1.length = s.length ∧ (o.2 : Int) = ((KP (eqI l) s s.length).length : Nat) ∧ o.1.take (KP (eqI l) s s.length).length = KP (eqI l) s s.length) ?_ ?_
       · refine ok_loop (fun q : List Int × Int × Int => ∃ m : Nat, q.2.2 = m ∧ 1 ≤ m ∧ k + m ≤ s.length ∧ q.1.length = s.length ∧ q.2.1 = ((KP (eqI l) s (k + m)).length : Nat) ∧ (KP (eqI l) s (k + m)).length ≤ k + m - 1 ∧ q.1.take (KP (eqI l) s (k + m)).length = KP (eqI l) s (k + m) ∧ ∀ j, (KP (eqI l) s (k + m)).length ≤ j → q.1.getD j default = s.getD j default) (fun q => s.length - q.2.2.toNat) ?_ n _ ?_ ?_
         · rintro again2 ⟨b, x, y⟩ ⟨m, hm, m1, mk, bl, hx, hle, ht, hg⟩ ih2
           dsimp only at hm bl hx ht hg
           subst hm hx
           dsimp only
           have e1 : ((s.length - k : Nat) : Int) = (s.length : Int) - k := by omega
           refine Ok.cd (fun hlt2 => ?_) (fun hge2 => ?_)
           · have hlt2 : k + m < s.length := by have := of_decide_eq_true hlt2; omega
             have em : ((m : Int)).toNat = m := by omega
             have em1 : ((m : Int) - 1) = ((m - 1 : Nat) : Int) := by omega
             have em1n : (((m - 1 : Nat) : Int)).toNat = m - 1 := by omega
             rw [wrap64_in (n := (m : Int) - 1) (by omega) (by omega), em1, em, em1n, inR_nat, inR_nat, inR_nat, inR_nat, gt_nat, gt_nat]
             refine Ok.gd (decide_eq_true (by omega)) (Ok.gd (decide_eq_true (by omega)) (Ok.gd (decide_eq_true (by omega)) (Ok.gd (decide_eq_true (by omega)) ?_)))
             have g1 := hg (k + m) (by omega)
             have g2 := hg (k + (m - 1)) (by omega)
             rw [g1, g2]
             refine Ok.bde (hull2_v (hat (k + m) hlt2) (hat (k + (m - 1)) (by omega))) ?_
             have ekm : k + (m - 1) = k + m - 1 := by omega
             rw [ekm]
             have hw : wrapF .i64 ((m : Int) + 1) = ((m + 1 : Nat) : Int) := by rw [wrap64_in (by omega) (by omega)]; omega
             rw [hw]
             clear hw
             refine Ok.cd (fun hn => ?_) (fun hn => ?_)
             · have hn : eqI l (s.getD (k + m) default) (s.getD (k + m - 1) default) = false := by simpa using hn
               have hK : KP (eqI l) s (k + (m + 1)) = KP (eqI l) s (k + m) ++ [s.getD (k + m) default] := by
                rw [← Nat.add_assoc, KP, if_pos (.inr hn)]
               have hw2 : wrapF .i64 ((((KP (eqI l) s (k + m)).length : Nat) : Int) + 1) = (((KP (eqI l) s (k + m)).length + 1 : Nat) : Int) := by rw [wrap64_in (by omega) (by omega)]; omega
               rw [hw2]
               clear hw2
               refine Ok.gd (decide_eq_true (by omega)) ?_
               have en : ((((KP (eqI l) s (k + m)).length : Nat) : Int)).toNat = (KP (eqI l) s (k + m)).length := by omega
               rw [en]
               refine ih2 _ ⟨m + 1, rfl, by omega, by omega, by simpa using bl, by rw [hK]; simp, by rw [hK]; simp; omega, ?_, ?_⟩ ?_
               · dsimp only
                 rw [hK, List.length_append, List.length_singleton, take_succ_at (by simp; omega), List.take_set_of_le (by omega), ht]
                 congr 1
                 rw [List.getD_eq_getElem?_getD, List.getElem?_set, if_pos rfl, bl, if_pos (by omega)]; rfl
               · intro j hj
                 dsimp only
                 rw [hK] at hj
                 simp only [List.length_append, List.length_singleton] at hj
                 have := hg j (by omega)
                 simp only [List.getD, List.getElem?_set, if_neg (by omega : ¬ (KP (eqI l) s (k + m)).length = j)] at this ⊢
                 exact this
               · show s.length - ((m + 1 : Nat) : Int).toNat < s.length - ((m : Int)).toNat
                 omega
             · have hn : eqI l (s.getD (k + m) default) (s.getD (k + m - 1) default) = true := by simpa using hn
               have hK : KP (eqI l) s (k + (m + 1)) = KP (eqI l) s (k + m) := by
                rw [← Nat.add_assoc, KP, if_neg (by rw [hn]; simp; omega)]
               refine ih2 _ ⟨m + 1, rfl, by omega, by omega, bl, by rw [hK], by rw [hK]; omega, by rw [hK]; exact ht, by rw [hK]; exact hg⟩ ?_
               show s.length - ((m + 1 : Nat) : Int).toNat < s.length - ((m : Int)).toNat
               omega
           · have hge2 := of_decide_eq_false hge2
             have e : k + m = s.length := by omega
             rw [e] at ht
             refine ok_some.2 ⟨bl, ?_, ht⟩
             dsimp only
             rw [e]
         · exact ⟨1, rfl, by omega, by omega, rfl, by show (k : Int) = _; rw [hP1, List.length_take, Nat.min_eq_left (by omega)], by rw [hP1, List.length_take]; omega, by rw [hP1, List.length_take, Nat.min_eq_left (by omega)], fun j hj => rfl⟩
         · show s.length - 1 < n
           omega
       · rintro ⟨b, x⟩ ⟨bl, hx, ht⟩
         dsimp only at bl hx ht
         subst hx
         dsimp only
         have hK := KP_len (eq := eqI l) (s := s) s.length
         refine Ok.gd (by rw [inS_iff]; omega) (Ok.gd (by rw [inS_iff]; omega) (ok_some.2 ?_))
         have en : ((((KP (eqI l) s s.length).length : Nat) : Int)).toNat = (KP (eqI l) s s.length).length := by omega
         rw [en, overT_eq (by simp; omega)]
         show List.take _ _ = _
         rw [List.append_assoc, List.take_append_of_le_length (by rw [List.length_take]; omega), List.take_take, Nat.min_self]
         exact ht
     · have hw : wrapF .i64 ((k : Int) + 1) = ((k + 1 : Nat) : Int) := by rw [wrap64_in (by omega) (by omega)]; omega
       rw [hw]
       clear hw
       refine ih _ ⟨k + 1, rfl, by omega, by omega, ?_⟩ (by omega)
       rw [KP, if_pos (.inr he), hP, take_succ_at hlt]
   · have hge := of_decide_eq_false hge
     have e : k = s.length := by omega
     subst e
     refine ok_some.2 ?_
     show s = _
     rw [hP, List.take_length]
theorem getD_set2H {γ : Type} [Inhabited γ] {l : List γ} {i j p : Nat} {v w : γ} (hi : i < l.length) (hj : j < l.length) : ((l.set i v).set j w).getD p default = if p = j then w else if p = i then v else l.getD p default := by
 simp only [List.getD, List.getElem?_set, List.length_set]
 by_cases h1 : j = p
 · subst h1; simp [hj]
 · have h1' : ¬ p = j := fun e => h1 e.symm
   by_cases h2 : i = p
   · subst h2; simp [hi, h1, h1']
   · have h2' : ¬ p = i := fun e => h2 e.symm
     simp [h1, h1', h2, h2']
theorem reverse_v {n : Nat} {l : List Int} (hn : l.length < n) (h20 : l.length ≤ 1024) : slices_Reverse_int_int_w_2 n l = some l.reverse := by
 apply Ok.eq
 unfold slices_Reverse_int_int_w_2
 refine Ok.bd (R := fun r => r = l.reverse) ?_ (fun r hr => ok_some.2 hr)
 rw [wrap64_in (n := (l.length : Int) - 1) (by omega) (by omega)]
 refine ok_loop (fun s : List Int × Int × Int => ∃ i : Nat, s.2.1 = (i : Int) ∧ s.2.2 = (l.length : Int) - 1 - i ∧ 2 * i ≤ l.length ∧ s.1.length = l.length ∧ ∀ p, p < l.length → s.1.getD p default = if p < i ∨ l.length - i ≤ p then l.getD (l.length - 1 - p) default else l.getD p default) (fun s => l.length - s.2.1.toNat) ?_ n _ ?_ ?_
 · rintro again ⟨s, a, b⟩ ⟨i, ha, hb, hi, hs, hp⟩ ih
   dsimp only at ha hb hs hp
   subst ha hb
   dsimp only at ih ⊢
   refine Ok.cd (fun hlt => ?_) (fun hge => ?_)
   · have hlt := of_decide_eq_true hlt
     have ej : (l.length : Int) - 1 - (i : Int) = ((l.length - 1 - i : Nat) : Int) := by omega
     rw [ej, inR_nat, inR_nat, gt_nat, gt_nat]
     refine Ok.gd (by simp; omega) (Ok.gd (by simp; omega) ?_)
     rw [wrap64_in (by omega) (by omega), wrap64_in (by omega) (by omega)]
     have e1 : ((i : Int)).toNat = i := by omega
     have e2 : (((l.length - 1 - i : Nat) : Int)).toNat = l.length - 1 - i := by omega
     rw [e1, e2]
     refine ih _ ⟨i + 1, by simp, by simp; omega, by omega, by simpa using hs, fun p hpl => ?_⟩ ?_
     · dsimp only
       rw [getD_set2H (by omega) (by omega), hp (l.length - 1 - i) (by omega), hp i (by omega), hp p hpl]
       by_cases h1 : p = l.length - 1 - i
       · rw [if_pos h1, if_neg (by omega), if_pos (by omega), h1]
         congr 1; omega
       · rw [if_neg h1]
         by_cases h2 : p = i
         · rw [if_pos h2, if_neg (by omega), if_pos (by omega), h2]
         · rw [if_neg h2]
           by_cases h3 : p < i ∨ l.length - i ≤ p
           · rw [if_pos h3, if_pos (by omega)]
           · rw [if_neg h3, if_neg (by omega)]
     · show l.length - ((i : Int) + 1).toNat < l.length - ((i : Int)).toNat
       omega
   · have hge := of_decide_eq_false hge
     refine ok_some.2 ?_
     apply List.ext_getElem
     · simp [hs]
     · intro p h1 h2
       have := hp p (by omega)
       have hq : (if p < i ∨ l.length - i ≤ p then l.getD (l.length - 1 - p) default else l.getD p default) = l.getD (l.length - 1 - p) default := by
        by_cases h3 : p < i ∨ l.length - i ≤ p
        · rw [if_pos h3]
        · rw [if_neg h3]; congr 1; omega
       rw [hq] at this
       rw [List.getElem_reverse]
       simpa only [List.getD, List.getElem?_eq_getElem h1, List.getElem?_eq_getElem (show l.length - 1 - p < l.length by omega), Option.getD_some] using this
 · exact ⟨0, rfl, by simp, by omega, rfl, fun p hp => by rw [if_neg (by omega)]⟩
 · show l.length - 0 < n
   omega
end Go.L

