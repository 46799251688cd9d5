import Derived.Test.YtkhmlbchphhokaaGreatFliL46c
import Derived.Test.YtkhmlbchphhokaaGreatFliL46u
set_option linter.all false
namespace Go.L
open Go Go.Eng
def atF (k : Nat) (f : api_Field) : Int := f.V.getD k default
def hr (k : Nat) (l : List api_Field) : List Int := (l.map (atF k)).filter (fun v => decide (v ≥ 0))
def cntF (l : List api_Field) (k : Nat) : Int := ((hr k l).length : Int)
def medF (l : List api_Field) (k : Nat) : Int := if (hr k l).length = 0 then -1 else (srt (hr k l)).getD (((hr k l).length - 1) / 2) default
theorem hr_take {l : List api_Field} {k j : Nat} (hj : j < l.length) : hr k (l.take (j + 1)) = hr k (l.take j) ++ (if atF k (l.getD j default) ≥ 0 then [atF k (l.getD j default)] else []) := by
 unfold hr
 rw [List.take_add_one, List.getElem?_eq_getElem hj, List.map_append, List.filter_append]
 have : l.getD j default = l[j] := by simp [List.getD, List.getElem?_eq_getElem hj]
 rw [this]
 by_cases h : atF k l[j] ≥ 0
 · simp [h]
 · simp [h]
theorem hr_len (k : Nat) (l : List api_Field) : (hr k l).length ≤ l.length := by
 unfold hr
 have := List.length_filter_le (fun v : Int => decide (v ≥ 0)) (l.map (atF k))
 simpa using this
def sameD (g f : api_Field) : Bool := (f.Width == g.Width) && (f.Height == g.Height)
def codeF (l : List api_Field) : Int := if l.all okF = true then (if l.length < 1 ∨ 16 < l.length then 3 else if l.all (sameD (l.getD 0 default)) = true then 0 else 4) else 1
theorem loop_first {γ ρ : Type} [Inhabited γ] {n : Nat} {s : List γ} {p : γ → Bool} {c : ρ} {F : (Int → Option (Sum Unit ρ)) → Int → Option (Sum Unit ρ)} (hn : s.length < n) (hl : s.length ≤ 9223372036854775806)
  (step : ∀ again (k : Nat), k < s.length → F again (k : Int) = if p (s.getD k default) = true then again (wrapF .i64 ((k : Int) + 1)) else some (.inr c)) (hend : ∀ again, F again (s.length : Int) = some (.inl ())) : loopO n F 0 = some (if s.all p = true then .inl () else .inr c) := by
 apply Ok.eq
 refine ok_range (len := s.length) (fun k => ∀ j, j < k → p (s.getD j default) = true) hn hl (by intro j hj; omega) ?_ ?_
 · intro again k hk hP ih
   rw [step again k hk]
   by_cases h : p (s.getD k default) = true
   · rw [if_pos h]
     exact ih fun j hj => by
      by_cases hjk : j = k
      · rw [hjk]; exact h
      · exact hP j (by omega)
   · rw [if_neg h]
     refine ok_some.2 ?_
     rw [if_neg]
     intro ha
     rw [List.all_eq_true] at ha
     exact h (ha _ (by simp only [List.getD, List.getElem?_eq_getElem hk, Option.getD_some]; exact List.getElem_mem hk))
 · intro again hP
   rw [hend]
   refine ok_some.2 ?_
   rw [if_pos]
   refine List.all_eq_true.2 fun x hx => ?_
   obtain ⟨j, hj, rfl⟩ := List.getElem_of_mem hx
   have := hP j hj
   simpa only [List.getD, List.getElem?_eq_getElem hj, Option.getD_some] using this
theorem all_at {γ : Type} [Inhabited γ] {p : γ → Bool} {s : List γ} (h : s.all p = true) {j : Nat} (hj : j < s.length) : p (s.getD j default) = true := by
 rw [List.all_eq_true] at h
 refine h _ ?_
 simp only [List.getD, List.getElem?_eq_getElem hj, Option.getD_some]; exact List.getElem_mem hj
structure OkL (l : List api_Field) : Prop where
 len : 1 ≤ l.length ∧ l.length ≤ 6
 ok : ∀ j, j < l.length → OkF (l.getD j default)
 dim : ∀ j, j < l.length → (l.getD j default).Width = (l.getD 0 default).Width ∧ (l.getD j default).Height = (l.getD 0 default).Height
theorem OkL.w {l : List api_Field} (h : OkL l) {j : Nat} (hj : j < l.length) : wN (l.getD j default) = wN (l.getD 0 default) := by unfold wN; rw [(h.dim j hj).1]
theorem OkL.v {l : List api_Field} (h : OkL l) {j : Nat} (hj : j < l.length) : (l.getD j default).V.length = (l.getD 0 default).V.length := by
 rw [rows (h.ok j hj), rows (h.ok 0 (by have := h.len; omega)), h.w hj, (h.dim j hj).2]
theorem okL_of {l : List api_Field} (h : codeF l = 0) (h6 : l.length ≤ 6 ∨ 16 < l.length) : OkL l := by
 unfold codeF at h
 split at h
 · rename_i h1
   split at h
   · omega
   · rename_i h2
     split at h
     · rename_i h3
       refine ⟨by omega, fun j hj => okF_iff.1 (all_at h1 hj), fun j hj => ?_⟩
       have := all_at h3 hj
       simp only [sameD, Bool.and_eq_true, beq_iff_eq] at this
       exact this
     · omega
 · omega
theorem code_of {l : List api_Field} (h : OkL l) : codeF l = 0 := by
 have e1 : l.all okF = true := by
  refine List.all_eq_true.2 fun x hx => ?_
  obtain ⟨j, hj, rfl⟩ := List.getElem_of_mem hx
  have := okF_iff.2 (h.ok j hj)
  simpa only [List.getD, List.getElem?_eq_getElem hj, Option.getD_some] using this
 have e2 : l.all (sameD (l.getD 0 default)) = true := by
  refine List.all_eq_true.2 fun x hx => ?_
  obtain ⟨j, hj, rfl⟩ := List.getElem_of_mem hx
  have := h.dim j hj
  have e : l.getD j default = l[j] := by simp [List.getD, List.getElem?_eq_getElem hj]
  rw [e] at this
  unfold sameD; rw [this.1, this.2]; simp
 have := h.len
 unfold codeF
 rw [if_pos e1, if_neg (by omega), if_pos e2]
theorem half_v {a : Nat} (h : 1 ≤ a) (h2 : a ≤ 100) : wrapF .i64 ((wrapF .i64 ((a : Int) - 1)).tdiv 2) = (((a - 1) / 2 : Nat) : Int) := by
 rw [wrap64_in (n := (a : Int) - 1) (by omega) (by omega), Int.tdiv_eq_ediv_of_nonneg (by omega), wrap64_in (by omega) (by omega)]
 omega
def medL (l : List api_Field) : List Int := (List.range (l.getD 0 default).V.length).map (medF l)
def cntL (l : List api_Field) : List Int := (List.range (l.getD 0 default).V.length).map (cntF l)
def fuseR (l : List api_Field) : api_Field × api_Field × Int := (api_Field.mk (l.getD 0 default).Width (l.getD 0 default).Height (medL l), api_Field.mk (l.getD 0 default).Width (l.getD 0 default).Height (cntL l), 0)
theorem fuse_v {l : List api_Field} (h6 : l.length ≤ 6 ∨ 16 < l.length) (h20 : l.length ≤ 20) (hv : ∀ j, j < l.length → (l.getD j default).V.length ≤ 80) : depth_Fuse 5000 l = some (if codeF l = 0 then fuseR l else (zeroF, zeroF, codeF l)) := by
 apply Ok.eq
 unfold depth_Fuse
 have g0 : gt l 0 = l.getD 0 default := rfl
 refine Ok.bde (loop_first (p := okF) (c := ((zeroF, zeroF, 1) : api_Field × api_Field × Int)) (s := l) (by omega) (by omega) ?_ ?_) ?_
 · intro again k hk
   have d : decide ((k : Int) < (l.length : Int)) = true := by simpa using hk
   have d2 : decide (k < l.length) = true := by simpa using hk
   have := hv k hk
   rw [d, inR_nat, d2, gt_nat, check_v (by omega) (by omega)]
   cases okF (l.getD k default) <;> rfl
 · intro again
   have d : decide ((l.length : Int) < (l.length : Int)) = false := by simp
   rw [d]; rfl
 cases ha : l.all okF with
 | false =>
  have : codeF l = 1 := by unfold codeF; rw [ha]; rfl
  rw [this]
  exact ok_some.2 rfl
 | true =>
  rw [if_pos rfl]
  dsimp only
  refine Ok.cd (fun h1 => ?_) (fun h1 => Ok.cd (fun h2 => ?_) (fun h2 => ?_))
  · have h1 := of_decide_eq_true h1
    have : codeF l = 3 := by unfold codeF; rw [ha, if_pos rfl, if_pos (by omega)]
    rw [this]
    exact ok_some.2 rfl
  · have h1 := of_decide_eq_false h1
    have h2 := of_decide_eq_true h2
    have : codeF l = 3 := by unfold codeF; rw [ha, if_pos rfl, if_pos (by omega)]
    rw [this]
    exact ok_some.2 rfl
  have h1 := of_decide_eq_false h1
  have h2 := of_decide_eq_false h2
  have hl1 : 1 ≤ l.length := by omega
  have hl6 : l.length ≤ 6 := by omega
  have i0 : inR 0 l.length = true := by rw [inR_iff]; omega
  refine Ok.bde (loop_first (p := sameD (l.getD 0 default)) (c := ((zeroF, zeroF, 4) : api_Field × api_Field × Int)) (s := l) (by omega) (by omega) ?_ ?_) ?_
  · intro again k hk
    have d : decide ((k : Int) < (l.length : Int)) = true := by simpa using hk
    have d2 : decide (k < l.length) = true := by simpa using hk
    rw [d, inR_nat, d2, gt_nat, i0, g0]
    unfold depth_alike sameD
    cases ((l.getD k default).Width == (l.getD 0 default).Width) <;> cases ((l.getD k default).Height == (l.getD 0 default).Height) <;> rfl
  · intro again
    have d : decide ((l.length : Int) < (l.length : Int)) = false := by simp
    rw [d]; rfl
  cases hs : l.all (sameD (l.getD 0 default)) with
  | false =>
   have : codeF l = 4 := by unfold codeF; rw [ha, if_pos rfl, if_neg (by omega), hs]; rfl
   rw [this]
   exact ok_some.2 rfl
  | true =>
   have hc : codeF l = 0 := by unfold codeF; rw [ha, if_pos rfl, if_neg (by omega), hs]; rfl
   have hL := okL_of hc h6
   have hf0 := hL.ok 0 (by omega)
   have hv0 := hv 0 (by omega)
   rw [hc, if_pos rfl, if_pos rfl]
   dsimp only
   refine Ok.gd i0 ?_
   rw [g0]
   refine Ok.bde (blank_v (by omega) hf0) (Ok.bde (blank_v (by omega) hf0) ?_)
   dsimp only
   generalize hm : (l.getD 0 default).V.length = m at *
   refine Ok.bd (R := fun o : List Int × List Int => o.1 = (List.range m).map (medF l) ∧ o.2 = (List.range m).map (cntF l)) ?_ ?_
   · refine ok_rangeG (len := m) (γ := List Int × List Int) (fun c k => (c.1, c.2, k)) (fun k c => c.1.length = m ∧ c.2.length = m ∧ (∀ j, j < k → c.1.getD j default = medF l j ∧ c.2.getD j default = cntF l j) ∧ (∀ j, k ≤ j → j < m → c.1.getD j default = -1)) (by omega) (by omega) (c0 := (List.replicate m (-1), List.replicate m (-1))) ⟨by simp, by simp, fun j hj => by omega, fun j _ hj => getD_rep hj⟩ ?_ ?_
     · rintro again k ⟨c1, c2⟩ hk ⟨p1, p2, p3, p4⟩ ih
       dsimp only at p1 p2 p3 p4 ⊢
       have d : decide ((k : Int) < ((List.replicate m (-1) : List Int).length : Int)) = true := by simpa using hk
       rw [d]
       refine Ok.bd (R := fun h => h = hr k l) ?_ ?_
       · refine ok_rangeR (len := l.length) (fun j (c : List Int) => c = hr k (l.take j)) (by omega) (by omega) rfl ?_ ?_
         · rintro again2 j c hj rfl ih2
           have d : decide ((j : Int) < (l.length : Int)) = true := by simpa using hj
           have d2 : decide (j < l.length) = true := by simpa using hj
           have hlj := hr_len k (l.take j)
           have hlt : (l.take j).length ≤ l.length := by rw [List.length_take]; omega
           dsimp only
           rw [d, inR_nat, d2, gt_nat, inR_nat, gt_nat]
           have d3 : decide (k < (l.getD j default).V.length) = true := by rw [hL.v hj, hm]; simpa using hk
           rw [d3]
           refine Ok.gd rfl (Ok.gd rfl (Ok.cd (fun hp => ?_) (fun hp => ?_)))
           · have hp := of_decide_eq_true hp
             refine Ok.gd (decide_eq_true (by omega)) (Ok.gd (decide_eq_true (by omega)) (ih2 _ ?_))
             rw [hr_take hj, if_pos (show atF _ _ ≥ 0 from hp)]; rfl
           · have hp := of_decide_eq_false hp
             refine ih2 _ ?_
             rw [hr_take hj, if_neg (show ¬ atF _ _ ≥ 0 from hp), List.append_nil]
         · rintro again2 c rfl
           have d : decide ((l.length : Int) < (l.length : Int)) = false := by simp
           dsimp only
           rw [d]
           refine ok_some.2 ?_
           rw [List.take_length]
       · rintro h rfl
         have hle := hr_len k l
         refine Ok.bde (sort_v (by omega) (by omega)) (Ok.gd (by rw [srt_len]; simp) (Ok.gd (by rw [inR_nat, p2]; simpa using hk) ?_))
         have ek : ((k : Int)).toNat = k := by omega
         rw [ek]
         refine Ok.cd (fun hp => ?_) (fun hp => ?_)
         · have hp := of_decide_eq_true hp
           have hw := half_v (a := (hr k l).length) (by omega) (by omega)
           rw [hw, inR_nat, gt_nat, inR_nat, p1]
           refine Ok.gd (by simp; omega) (Ok.gd (by simpa using hk) (ih (_, _) ⟨by simpa using p1, by simpa using p2, fun j hj => ?_, fun j hj hjm => ?_⟩))
           · dsimp only
             rw [getD_set (by omega), getD_set (by omega)]
             by_cases hjk : j = k
             · subst hjk
               rw [if_pos rfl, if_pos rfl]
               refine ⟨?_, rfl⟩
               unfold medF; rw [if_neg (by omega)]
             · rw [if_neg hjk, if_neg hjk]; exact p3 j (by omega)
           · dsimp only
             rw [getD_set (by omega), if_neg (by omega)]; exact p4 j (by omega) hjm
         · have hp := of_decide_eq_false hp
           refine ih (_, _) ⟨p1, by simpa using p2, fun j hj => ?_, fun j hj hjm => p4 j (by omega) hjm⟩
           dsimp only
           rw [getD_set (by omega)]
           by_cases hjk : j = k
           · subst hjk
             rw [if_pos rfl]
             refine ⟨?_, rfl⟩
             unfold medF; rw [if_pos (by omega)]; exact p4 j (Nat.le_refl _) hk
           · rw [if_neg hjk]; exact p3 j (by omega)
     · rintro again ⟨c1, c2⟩ ⟨p1, p2, p3, p4⟩
       have d : decide ((m : Int) < ((List.replicate m (-1) : List Int).length : Int)) = false := by simp
       dsimp only at p1 p2 p3 p4 ⊢
       rw [d]
       exact ok_some.2 ⟨list_at p1 fun j hj => (p3 j hj).1, list_at p2 fun j hj => (p3 j hj).2⟩
   · rintro ⟨o1, o2⟩ ⟨q1, q2⟩
     dsimp only at q1 q2 ⊢
     refine ok_some.2 ?_
     unfold fuseR medL cntL
     rw [hm, q1, q2]
end Go.L

