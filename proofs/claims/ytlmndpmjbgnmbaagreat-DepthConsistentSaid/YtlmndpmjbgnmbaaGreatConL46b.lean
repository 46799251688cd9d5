import Derived.Test.YtlmndpmjbgnmbaaGreatConL46a
set_option linter.unusedVariables false
set_option linter.unusedSimpArgs false
namespace Go.L
open Go Go.Eng
def wN (f : api_Field) : Nat := f.Width.toNat
theorem wN_eq {f : api_Field} (hf : OkF f) : ((wN f : Nat) : Int) = f.Width := by have := hf.w; unfold wN; omega
theorem wN_pos {f : api_Field} (hf : OkF f) : 0 < wN f := by have := hf.w; unfold wN; omega
theorem rows {f : api_Field} (hf : OkF f) : f.V.length = wN f * f.Height.toNat := by
  have h1 := hf.len
  have h2 := wN_eq hf
  have h3 : ((f.Height.toNat : Nat) : Int) = f.Height := by have := hf.h; omega
  rw [← h2, ← h3] at h1
  exact_mod_cast h1
theorem list_at {l : List Int} {m : Nat} {g : Nat → Int} (hl : l.length = m) (h : ∀ j, j < m → l.getD j default = g j) : l = (List.range m).map g := by
  apply List.ext_getElem
  · simp [hl]
  · intro i h1 h2
    have := h i (by omega)
    simp only [List.getD, List.getElem?_eq_getElem h1, Option.getD_some] at this
    rw [this]; simp
theorem getD_set {l : List Int} {i j : Nat} {v : Int} (hi : i < l.length) : (l.set i v).getD j default = if j = i then v else l.getD j default := by
  simp only [List.getD, List.getElem?_set]
  by_cases h : i = j
  · subst h; simp [hi]
  · have : ¬ j = i := fun e => h e.symm
    simp [h, this]
theorem getD_rep {m j : Nat} {v : Int} (h : j < m) : (List.replicate m v).getD j default = v := by simp [List.getD, h]
def conV (l r : api_Field) (most : Int) (i : Nat) : Int :=
  if l.V.getD i default < 0 ∨ l.V.getD i default > ((i % wN l : Nat) : Int) then -1 else
  if r.V.getD (i - (l.V.getD i default).toNat) default ≥ 0 ∧ mx (l.V.getD i default - r.V.getD (i - (l.V.getD i default).toNat) default) (r.V.getD (i - (l.V.getD i default).toNat) default - l.V.getD i default) ≤ most then l.V.getD i default else -1
def conL (l r : api_Field) (most : Int) : List Int := (List.range l.V.length).map (conV l r most)
theorem con_ok {n : Nat} (hn : 4096 < n) {l r : api_Field} (hl : OkF l) (hr : OkF r) (hW : l.Width = r.Width) (hH : l.Height = r.Height) {most : Int} (hm : 0 ≤ most) : depth_Consistent n l r most = some (api_Field.mk l.Width l.Height (conL l r most), 0) := by
  have ha := area46 hl.w hl.h
  have hlen := hl.len
  have hrlen := hr.len
  rw [← hW, ← hH] at hrlen
  have hw := wN_eq hl
  have hwp := wN_pos hl
  apply Ok.eq
  unfold depth_Consistent
  refine Ok.bde (check_v (by omega) (by omega)) ?_
  rw [okF_iff.2 hl]
  refine Ok.cd (fun h => by cases h) (fun _ => Ok.bde (check_v (by omega) (by omega)) ?_)
  rw [okF_iff.2 hr]
  refine Ok.cd (fun h => by cases h) (fun _ => ?_)
  refine Ok.bde (b := true) (by unfold depth_alike; rw [hW, hH]; simp [cdO]) (Ok.cd (fun h => by cases h) (fun _ => ?_))
  refine Ok.cd (fun h => by have := of_decide_eq_true h; omega) (fun _ => Ok.bde (blank_v hn hl) ?_)
  refine Ok.bd (R := fun o => o = conL l r most) ?_ (fun o h => ok_some.2 (by rw [h]))
  refine ok_rangeR (len := l.V.length) (fun k c => c.length = l.V.length ∧ ∀ j, j < l.V.length → c.getD j default = if j < k then conV l r most j else -1) (by omega) (by omega) ⟨by simp, fun j hj => ?_⟩ ?_ ?_
  · rw [getD_rep hj, if_neg (by omega)]
  · rintro again k c hk ⟨hcl, hc⟩ ih
    have hv := hl.v k hk
    have stay : conV l r most k = -1 → ∀ j, j < l.V.length → c.getD j default = if j < k + 1 then conV l r most j else -1 := fun h j hj => by
      rw [hc j hj]
      by_cases hjk : j = k
      · subst hjk; rw [if_neg (by omega), if_pos (by omega), h]
      · by_cases h2 : j < k
        · rw [if_pos h2, if_pos (by omega)]
        · rw [if_neg h2, if_neg (by omega)]
    refine Ok.cd (fun _ => ?_) (fun h => by simp at h; omega)
    refine Ok.gd (by rw [inR_nat]; simpa using hk) ?_
    rw [gt_nat]
    refine Ok.cd (fun h0 => ?_) (fun h0 => ?_)
    · have h0 := of_decide_eq_true h0
      exact ih _ ⟨hcl, stay (by unfold conV; rw [if_pos (.inl h0)])⟩
    · have h0 := of_decide_eq_false h0
      refine Ok.gd (by simp; omega) ?_
      have et : ((k : Int)).tmod l.Width = ((k % wN l : Nat) : Int) := by rw [← hw, Int.natCast_emod, Int.tmod_eq_emod_of_nonneg (by omega)]
      rw [et]
      refine Ok.cd (fun h1 => ?_) (fun h1 => ?_)
      · have h1 := of_decide_eq_true h1
        exact ih _ ⟨hcl, stay (by unfold conV; rw [if_pos (.inr h1)])⟩
      · have h1 := of_decide_eq_false h1
        have hml := Nat.mod_le k (wN l)
        have e1 : wrapF .i64 ((k : Int) - l.V.getD k default) = ((k - (l.V.getD k default).toNat : Nat) : Int) := by rw [wrap64_in (by omega) (by omega)]; omega
        rw [e1]
        have hri : k - (l.V.getD k default).toNat < r.V.length := by omega
        have hrv := hr.v _ hri
        refine Ok.gd (by rw [inR_nat]; simpa using hri) ?_
        rw [gt_nat, wrap64_in (n := l.V.getD k default - _) (by omega) (by omega), wrap64_in (n := _ - l.V.getD k default) (by omega) (by omega)]
        have hn1 : ¬ (l.V.getD k default < 0 ∨ l.V.getD k default > ((k % wN l : Nat) : Int)) := by omega
        refine Ok.cd (fun h2 => Ok.cd (fun h3 => ?_) (fun h3 => ?_)) (fun h2 => ?_)
        · have h2 := of_decide_eq_true h2; have h3 := of_decide_eq_true h3
          refine Ok.gd (by rw [inR_nat]; simp; omega) ?_
          refine ih _ ⟨by simp [hcl], fun j hj => ?_⟩
          have et2 : ((k : Int)).toNat = k := by omega
          rw [et2, getD_set (by omega)]
          by_cases hjk : j = k
          · subst hjk; rw [if_pos rfl, if_pos (by omega)]; unfold conV; rw [if_neg hn1, if_pos ⟨h2, h3⟩]
          · rw [if_neg hjk, hc j hj]
            by_cases h4 : j < k
            · rw [if_pos h4, if_pos (by omega)]
            · rw [if_neg h4, if_neg (by omega)]
        · have h3 := of_decide_eq_false h3
          exact ih _ ⟨hcl, stay (by unfold conV; rw [if_neg hn1, if_neg (fun h => h3 h.2)])⟩
        · have h2 := of_decide_eq_false h2
          exact ih _ ⟨hcl, stay (by unfold conV; rw [if_neg hn1, if_neg (fun h => h2 h.1)])⟩
  · rintro again c ⟨hcl, hc⟩
    refine Ok.cd (fun h => by simp at h) (fun _ => ok_some.2 ?_)
    exact list_at hcl fun j hj => by rw [hc j hj, if_pos hj]
end Go.L

