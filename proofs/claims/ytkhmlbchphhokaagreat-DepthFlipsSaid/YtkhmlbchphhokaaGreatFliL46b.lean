import Derived.Test.YtkhmlbchphhokaaGreatFliL46a
set_option linter.all false
namespace Go.L
open Go Go.Eng
def bst (p : Nat → Bool) : Nat → Int
 | 0 => -1
 | m + 1 => bif p m then (m : Int) else bst p m
theorem bst_lt (p : Nat → Bool) : ∀ m, -1 ≤ bst p m ∧ bst p m < m
 | 0 => by simp [bst]
 | m + 1 => by
  have ih := bst_lt p m
  unfold bst
  cases p m <;> simp only [cond_true, cond_false] <;> omega
theorem bst_ge {p : Nat → Bool} : ∀ {m d : Nat}, d < m → p d = true → (d : Int) ≤ bst p m
 | m + 1, d, h, hp => by
  unfold bst
  cases hm : p m with
  | true => simp only [cond_true]; omega
  | false =>
   have : d ≠ m := by rintro rfl; rw [hp] at hm; cases hm
   simp only [cond_false]
   exact bst_ge (by omega) hp
theorem bst_at {p : Nat → Bool} : ∀ {m : Nat}, 0 ≤ bst p m → p (bst p m).toNat = true
 | 0, h => by simp [bst] at h
 | m + 1, h => by
  unfold bst at h ⊢
  cases hm : p m with
  | true => simp only [cond_true]; simpa using hm
  | false => rw [hm] at h; simp only [cond_false] at h ⊢; exact bst_at h
def wN (f : api_Field) : Nat := f.Width.toNat
theorem wN_eq {f : api_Field} (hf : OkF f) : ((wN f : Nat) : Int) = f.Width := by have := hf.w; unfold wN; omega
theorem wN_pos {f : api_Field} (hf : OkF f) : 0 < wN f := by have := hf.w; unfold wN; omega
theorem rows {f : api_Field} (hf : OkF f) : f.V.length = wN f * f.Height.toNat := by
 have h1 := hf.len
 have h2 := wN_eq hf
 have h3 : ((f.Height.toNat : Nat) : Int) = f.Height := by have := hf.h; omega
 rw [← h2, ← h3] at h1
 exact_mod_cast h1
theorem row_end {f : api_Field} (hf : OkF f) {j : Nat} (hj : j < f.V.length) : wN f - j % wN f ≤ f.V.length - j := by
 have hw := wN_pos hf
 rw [rows hf] at hj ⊢
 have h1 := Nat.div_add_mod j (wN f)
 have h2 : j / wN f < f.Height.toNat := Nat.div_lt_of_lt_mul hj
 have h3 : wN f * (j / wN f + 1) ≤ wN f * f.Height.toNat := Nat.mul_le_mul_left _ h2
 rw [Nat.mul_add, Nat.mul_one] at h3
 omega
theorem mod_sub {k d w : Nat} (h : d ≤ k % w) (hw : 0 < w) : (k - d) % w = k % w - d := by
 have h1 := Nat.div_add_mod k w
 have h2 := Nat.mod_lt k hw
 have e : k - d = (k % w - d) + w * (k / w) := by omega
 rw [e, Nat.add_mul_mod_self_left, Nat.mod_eq_of_lt (by omega)]
theorem mod_add {j d w : Nat} (h : j % w + d < w) : (j + d) % w = j % w + d := by
 have h1 := Nat.div_add_mod j w
 have e : j + d = (j % w + d) + w * (j / w) := by omega
 rw [e, Nat.add_mul_mod_self_left, Nat.mod_eq_of_lt h]
def tP (f : api_Field) (j d : Nat) : Bool := f.V.getD (j + d) default == (d : Int)
def tV (f : api_Field) (k j : Nat) : Int := bst (tP f j) (min (wN f - j % wN f) (k - j))
def tEnd (f : api_Field) (j : Nat) : Int := bst (tP f j) (wN f - j % wN f)
def turnL (f : api_Field) : List Int := (List.range f.V.length).map (tEnd f)
theorem list_at {l : List Int} {m : Nat} {g : Nat → Int} (hl : l.length = m) (h : ∀ j, j < m → l.getD j default = g j) : l = (List.range m).map g := by
 apply List.ext_getElem
 · simp [hl]
 · intro i h1 h2
   have := h i (by omega)
   simp only [List.getD, List.getElem?_eq_getElem h1, Option.getD_some] at this
   rw [this]; simp
theorem tV_end {f : api_Field} (hf : OkF f) {j : Nat} (hj : j < f.V.length) : tV f f.V.length j = tEnd f j := by
 unfold tV tEnd; rw [Nat.min_eq_left (row_end hf hj)]
theorem tV_stay {f : api_Field} (hf : OkF f) {k j : Nat} (h : ∀ d : Nat, f.V.getD k default = (d : Int) → d ≤ k % wN f → j ≠ k - d) : tV f (k + 1) j = tV f k j := by
 have hw := wN_pos hf
 unfold tV
 by_cases hjk : k < j
 · rw [show k + 1 - j = 0 by omega, show k - j = 0 by omega]
 · by_cases hs : k - j < wN f - j % wN f
   · have e : k = j + (k - j) := by omega
     have hm := mod_add (j := j) (d := k - j) (w := wN f) (by omega)
     rw [← e] at hm
     rw [show min (wN f - j % wN f) (k + 1 - j) = (k - j) + 1 by omega, show min (wN f - j % wN f) (k - j) = k - j by omega]
     have : tP f j (k - j) = false := by
      unfold tP
      rw [← e]
      by_cases hv : f.V.getD k default = ((k - j : Nat) : Int)
      · exact absurd (show j = k - (k - j) by omega) (h (k - j) hv (by omega))
      · simpa using hv
     rw [bst, this]; rfl
   · rw [show min (wN f - j % wN f) (k + 1 - j) = min (wN f - j % wN f) (k - j) by omega]
theorem tV_go {f : api_Field} (hf : OkF f) {k d : Nat} (hv : f.V.getD k default = (d : Int)) (hd : d ≤ k % wN f) : tV f (k + 1) (k - d) = d ∧ tV f k (k - d) < d := by
 have hw := wN_pos hf
 have hm := mod_sub hd hw
 have h2 := Nat.mod_lt k hw
 have hkd : d ≤ k := Nat.le_trans hd (Nat.mod_le _ _)
 unfold tV
 rw [hm, show min (wN f - (k % wN f - d)) (k + 1 - (k - d)) = d + 1 by omega, show min (wN f - (k % wN f - d)) (k - (k - d)) = d by omega]
 have : tP f (k - d) d = true := by
  unfold tP; rw [Nat.sub_add_cancel hkd, hv]; simp
 exact ⟨by rw [bst, this]; rfl, (bst_lt _ _).2⟩
theorem getD_set {l : List Int} {i j : Nat} {v : Int} (hi : i < l.length) : (l.set i v).getD j default = if j = i then v else l.getD j default := by
 simp only [List.getD, List.getElem?_set]
 by_cases h : i = j
 · subst h; simp [hi]
 · have : ¬ j = i := fun e => h e.symm
   simp [h, this]
theorem getD_rep {m j : Nat} {v : Int} (h : j < m) : (List.replicate m v).getD j default = v := by simp [List.getD, h]
theorem turn_ok {n : Nat} (hn : 4096 < n) {f : api_Field} (hf : OkF f) : depth_Turn n f = some (api_Field.mk f.Width f.Height (turnL f), 0) := by
 have ha := area46 hf.w hf.h
 have hlen := hf.len
 have hw := wN_eq hf
 have hwp := wN_pos hf
 apply Ok.eq
 unfold depth_Turn
 refine Ok.bde (check_v (by omega) (by omega)) ?_
 rw [okF_iff.2 hf]
 refine Ok.cd (fun h => by cases h) (fun _ => Ok.bde (blank_v hn hf) ?_)
 refine Ok.bd (R := fun o => o = turnL f) ?_ (fun o h => ok_some.2 (by rw [h]))
 refine ok_rangeR (len := f.V.length) (fun k c => c.length = f.V.length ∧ ∀ j, j < f.V.length → c.getD j default = tV f k j) (by omega) (by omega) ⟨by simp, fun j hj => ?_⟩ ?_ ?_
 · rw [getD_rep hj]; unfold tV; rw [show 0 - j = 0 by omega, Nat.min_zero]; rfl
 · rintro again k c hk ⟨hcl, hc⟩ ih
   have hv := hf.v k hk
   refine Ok.cd (fun _ => ?_) (fun h => by simp at h; omega)
   refine Ok.gd (by rw [inR_nat]; simpa using hk) ?_
   rw [gt_nat]
   refine Ok.cd (fun h0 => ?_) (fun h0 => ?_)
   · have h0 := of_decide_eq_true h0
     obtain ⟨d, hd⟩ : ∃ d : Nat, f.V.getD k default = (d : Int) := ⟨(f.V.getD k default).toNat, by omega⟩
     rw [hd]
     refine Ok.gd (by simp; omega) ?_
     have et : ((k : Int)).tmod f.Width = ((k % wN f : Nat) : Int) := by rw [← hw, Int.natCast_emod, Int.tmod_eq_emod_of_nonneg (by omega)]
     rw [et]
     refine Ok.cd (fun h1 => ?_) (fun h1 => ?_)
     · have h1 := of_decide_eq_true h1
       have hdk : d ≤ k % wN f := by omega
       have hkd : d ≤ k := Nat.le_trans hdk (Nat.mod_le _ _)
       have e1 : wrapF .i64 ((k : Int) - (d : Int)) = ((k - d : Nat) : Int) := by rw [wrap64_in (by omega) (by omega)]; omega
       rw [e1]
       refine Ok.gd (by rw [inR_nat]; simp; omega) ?_
       rw [gt_nat]
       have hg := tV_go hf hd hdk
       refine ih _ ⟨by simp [hcl], fun j hj => ?_⟩
       have et2 : (((k - d : Nat) : Int)).toNat = k - d := by omega
       rw [et2, getD_set (by omega)]
       by_cases hjk : j = k - d
       · rw [if_pos hjk, hc _ (by omega), hjk, hg.1]
         unfold mx; rw [if_pos (by omega)]
       · rw [if_neg hjk, hc j hj, tV_stay hf]
         intro d' hd' _ he
         have : d' = d := by omega
         exact hjk (by rw [he, this])
     · have h1 := of_decide_eq_false h1
       refine ih _ ⟨hcl, fun j hj => ?_⟩
       rw [hc j hj, tV_stay hf]
       intro d' hd' h2 _
       omega
   · have h0 := of_decide_eq_false h0
     refine ih _ ⟨hcl, fun j hj => ?_⟩
     rw [hc j hj, tV_stay hf]
     intro d' hd' h2 _
     omega
 · rintro again c ⟨hcl, hc⟩
   refine Ok.cd (fun h => by simp at h) (fun _ => ok_some.2 ?_)
   exact list_at hcl fun j hj => by rw [hc j hj, tV_end hf hj]
def conV (l r : api_Field) (most : Int) (i : Nat) : Int :=
 if l.V.getD i default < 0 ∨ l.V.getD i default > ((i % wN l : Nat) : Int) then -1 else
 if r.V.getD (i - (l.V.getD i default).toNat) default ≥ 0 ∧ mx (l.V.getD i default - r.V.getD (i - (l.V.getD i default).toNat) default) (r.V.getD (i - (l.V.getD i default).toNat) default - l.V.getD i default) ≤ most then l.V.getD i default else -1
def conL (l r : api_Field) (most : Int) : List Int := (List.range l.V.length).map (conV l r most)
theorem con_ok {n : Nat} (hn : 4096 < n) {l r : api_Field} (hl : OkF l) (hr : OkF r) (hW : l.Width = r.Width) (hH : l.Height = r.Height) {most : Int} (hm : 0 ≤ most) : depth_Consistent n l r most = some (api_Field.mk l.Width l.Height (conL l r most), 0) := by
 have ha := area46 hl.w hl.h
 have hlen := hl.len
 have hrlen := hr.len
 rw [← hW, ← hH] at hrlen
 have hw := wN_eq hl
 have hwp := wN_pos hl
 apply Ok.eq
 unfold depth_Consistent
 refine Ok.bde (check_v (by omega) (by omega)) ?_
 rw [okF_iff.2 hl]
 refine Ok.cd (fun h => by cases h) (fun _ => Ok.bde (check_v (by omega) (by omega)) ?_)
 rw [okF_iff.2 hr]
 refine Ok.cd (fun h => by cases h) (fun _ => ?_)
 refine Ok.bde (b := true) (by unfold depth_alike; rw [hW, hH]; simp [cdO]) (Ok.cd (fun h => by cases h) (fun _ => ?_))
 refine Ok.cd (fun h => by have := of_decide_eq_true h; omega) (fun _ => Ok.bde (blank_v hn hl) ?_)
 refine Ok.bd (R := fun o => o = conL l r most) ?_ (fun o h => ok_some.2 (by rw [h]))
 refine ok_rangeR (len := l.V.length) (fun k c => c.length = l.V.length ∧ ∀ j, j < l.V.length → c.getD j default = if j < k then conV l r most j else -1) (by omega) (by omega) ⟨by simp, fun j hj => ?_⟩ ?_ ?_
 · rw [getD_rep hj, if_neg (by omega)]
 · rintro again k c hk ⟨hcl, hc⟩ ih
   have hv := hl.v k hk
   have stay : conV l r most k = -1 → ∀ j, j < l.V.length → c.getD j default = if j < k + 1 then conV l r most j else -1 := fun h j hj => by
    rw [hc j hj]
    by_cases hjk : j = k
    · subst hjk; rw [if_neg (by omega), if_pos (by omega), h]
    · by_cases h2 : j < k
      · rw [if_pos h2, if_pos (by omega)]
      · rw [if_neg h2, if_neg (by omega)]
   refine Ok.cd (fun _ => ?_) (fun h => by simp at h; omega)
   refine Ok.gd (by rw [inR_nat]; simpa using hk) ?_
   rw [gt_nat]
   refine Ok.cd (fun h0 => ?_) (fun h0 => ?_)
   · have h0 := of_decide_eq_true h0
     exact ih _ ⟨hcl, stay (by unfold conV; rw [if_pos (.inl h0)])⟩
   · have h0 := of_decide_eq_false h0
     refine Ok.gd (by simp; omega) ?_
     have et : ((k : Int)).tmod l.Width = ((k % wN l : Nat) : Int) := by rw [← hw, Int.natCast_emod, Int.tmod_eq_emod_of_nonneg (by omega)]
     rw [et]
     refine Ok.cd (fun h1 => ?_) (fun h1 => ?_)
     · have h1 := of_decide_eq_true h1
       exact ih _ ⟨hcl, stay (by unfold conV; rw [if_pos (.inr h1)])⟩
     · have h1 := of_decide_eq_false h1
       have hml := Nat.mod_le k (wN l)
       have e1 : wrapF .i64 ((k : Int) - l.V.getD k default) = ((k - (l.V.getD k default).toNat : Nat) : Int) := by rw [wrap64_in (by omega) (by omega)]; omega
       rw [e1]
       have hri : k - (l.V.getD k default).toNat < r.V.length := by omega
       have hrv := hr.v _ hri
       refine Ok.gd (by rw [inR_nat]; simpa using hri) ?_
       rw [gt_nat, wrap64_in (n := l.V.getD k default - _) (by omega) (by omega), wrap64_in (n := _ - l.V.getD k default) (by omega) (by omega)]
       have hn1 : ¬ (l.V.getD k default < 0 ∨ l.V.getD k default > ((k % wN l : Nat) : Int)) := by omega
       refine Ok.cd (fun h2 => Ok.cd (fun h3 => ?_) (fun h3 => ?_)) (fun h2 => ?_)
       · have h2 := of_decide_eq_true h2; have h3 := of_decide_eq_true h3
         refine Ok.gd (by rw [inR_nat]; simp; omega) ?_
         refine ih _ ⟨by simp [hcl], fun j hj => ?_⟩
         have et2 : ((k : Int)).toNat = k := by omega
         rw [et2, getD_set (by omega)]
         by_cases hjk : j = k
         · subst hjk; rw [if_pos rfl, if_pos (by omega)]; unfold conV; rw [if_neg hn1, if_pos ⟨h2, h3⟩]
         · rw [if_neg hjk, hc j hj]
           by_cases h4 : j < k
           · rw [if_pos h4, if_pos (by omega)]
           · rw [if_neg h4, if_neg (by omega)]
       · have h3 := of_decide_eq_false h3
         exact ih _ ⟨hcl, stay (by unfold conV; rw [if_neg hn1, if_neg (fun h => h3 h.2)])⟩
       · have h2 := of_decide_eq_false h2
         exact ih _ ⟨hcl, stay (by unfold conV; rw [if_neg hn1, if_neg (fun h => h2 h.1)])⟩
 · rintro again c ⟨hcl, hc⟩
   refine Ok.cd (fun h => by simp at h) (fun _ => ok_some.2 ?_)
   exact list_at hcl fun j hj => by rw [hc j hj, if_pos hj]
end Go.L

