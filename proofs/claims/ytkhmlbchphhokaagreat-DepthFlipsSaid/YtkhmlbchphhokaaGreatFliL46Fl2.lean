import Derived.Test.YtkhmlbchphhokaaGreatFliL46Fl1
import Derived.Test.YtkhmlbchphhokaaGreatFliL46Fuse
import Derived.Test.YtkhmlbchphhokaaGreatFliL46Int
import Derived.Test.YtkhmlbchphhokaaGreatFliL46Cons
set_option linter.all false
namespace Go.L
open Go Go.Eng
theorem okL_two {f g : api_Field} (hf : OkF f) (hg : OkF g) (hW : f.Width = g.Width) (hH : f.Height = g.Height) : OkL [f, g] := by
 refine ⟨by simp, fun j hj => ?_, fun j hj => ?_⟩ <;> rcases (show j = 0 ∨ j = 1 by simp at hj; omega) with rfl | rfl
 · exact hf
 · exact hg
 · exact ⟨rfl, rfl⟩
 · exact ⟨hW.symm, hH.symm⟩
theorem fuse_two {f g : api_Field} (hf : OkF f) (hg : OkF g) (hW : f.Width = g.Width) (hH : f.Height = g.Height) (h1 : f.V.length ≤ 80) (h2 : g.V.length ≤ 80) : ∃ c, depth_Fuse 5000 [f, g] = some (api_Field.mk f.Width f.Height ((List.range f.V.length).map (medF [f, g])), c, 0) := by
 have e := fuse_v (l := [f, g]) (by simp) (by simp) (fun j hj => by
  rcases (show j = 0 ∨ j = 1 by simp at hj; omega) with rfl | rfl
  · exact h1
  · exact h2)
 rw [if_pos (code_of (okL_two hf hg hW hH))] at e
 exact ⟨_, e⟩
theorem med_bd {f g : api_Field} (hf : OkF f) (hg : OkF g) {j : Nat} (h1 : j < f.V.length) (h2 : j < g.V.length) : -1 ≤ medF [f, g] j ∧ medF [f, g] j ≤ 1048576 := by
 unfold medF
 split
 · omega
 · rename_i h
   have hl := srt_len (hr j [f, g])
   have hi : ((hr j [f, g]).length - 1) / 2 < (srt (hr j [f, g])).length := by omega
   have hm : (srt (hr j [f, g])).getD (((hr j [f, g]).length - 1) / 2) default ∈ hr j [f, g] := by
    refine (isrt_perm _).mem_iff.1 ?_
    simp only [List.getD]
    rw [List.getElem?_eq_getElem hi]
    exact List.getElem_mem hi
   have := (List.mem_filter.1 hm).1
   simp only [List.map, List.mem_cons, List.not_mem_nil, or_false] at this
   rcases this with e | e <;> rw [e]
   · exact hf.v j h1
   · exact hg.v j h2
theorem med_flip {f g : api_Field} (hf : OkF f) (hg : OkF g) (hW : f.Width = g.Width) (hH : f.Height = g.Height) {j : Nat} (hj : j < f.V.length) :
  medF [api_Field.mk f.Width f.Height (flipL f), api_Field.mk g.Width g.Height (flipL g)] j = medF [f, g] (flp (wN f) f.Height.toNat j) := by
 have hlen : g.V.length = f.V.length := by rw [rows hf, rows hg]; unfold wN; rw [hW, hH]
 have e1 : atF j (api_Field.mk f.Width f.Height (flipL f)) = atF (flp (wN f) f.Height.toNat j) f := by
  show (flipL f).getD j default = f.V.getD _ default
  unfold flipL; rw [map_at hj]
 have e2 : atF j (api_Field.mk g.Width g.Height (flipL g)) = atF (flp (wN f) f.Height.toNat j) g := by
  show (flipL g).getD j default = g.V.getD _ default
  unfold flipL; rw [map_at (by omega), ← hH]; unfold wN; rw [hW]
 have : hr j [api_Field.mk f.Width f.Height (flipL f), api_Field.mk g.Width g.Height (flipL g)] = hr (flp (wN f) f.Height.toNat j) [f, g] := by
  unfold hr; simp only [List.map, e1, e2]
 unfold medF
 rw [this]
theorem step_flip {f : api_Field} (hf : OkF f) (h80 : f.V.length ≤ 80) {D1 D2 : Option (api_Field × Int)} {p q : Nat → Int} {K : Option Bool}
  (h1 : D1 = some (api_Field.mk f.Width f.Height ((List.range f.V.length).map p), 0)) (h2 : D2 = some (api_Field.mk f.Width f.Height ((List.range f.V.length).map q), 0))
  (hp : ∀ j, j < f.V.length → -1 ≤ p j ∧ p j ≤ 1048576) (hpq : ∀ j, j < f.V.length → q j = p (flp (wN f) f.Height.toNat j)) (hK : K = some true) :
  (bdO D1 fun v19 => bdO D2 fun v21 => cdO ((v19.2 : Int) != 0) (some false) (cdO ((v21.2 : Int) != 0) (some false) (bdO (fiduciallaw46_Valid 5000 v19.1) fun v25 => cdO (!v25) (some false) (bdO (fiduciallaw46_Flipped 5000 v19.1) fun v28 => bdO (fiduciallaw46_Same 5000 v28 v21.1) fun v30 => cdO (!v30) (some false) K)))) = some true := by
 have hr := rows hf
 have hw := wN_pos hf
 have hx : OkF (api_Field.mk f.Width f.Height ((List.range f.V.length).map p)) := by
  refine ⟨hf.w, hf.h, by simp; exact hf.len, fun j hj => ?_⟩
  have hj' : j < f.V.length := by simpa using hj
  show -1 ≤ ((List.range f.V.length).map p).getD j default ∧ ((List.range f.V.length).map p).getD j default ≤ 1048576
  rw [map_at hj']
  exact hp j hj'
 have hl : (api_Field.mk f.Width f.Height ((List.range f.V.length).map p)).V.length = f.V.length := by simp
 have e : flipL (api_Field.mk f.Width f.Height ((List.range f.V.length).map p)) = (List.range f.V.length).map q := by
  unfold flipL
  rw [hl]
  refine List.map_congr_left fun j hj => ?_
  rw [List.mem_range] at hj
  show ((List.range f.V.length).map p).getD (flp (wN f) f.Height.toNat j) default = q j
  rw [map_at (by rw [hr] at hj ⊢; exact flp_lt hw hj), hpq j hj]
 apply Ok.eq
 refine Ok.bde h1 (Ok.bde h2 (Ok.cd (fun h => by cases h) (fun _ => Ok.cd (fun h => by cases h) (fun _ => Ok.bde (valid_v (by dsimp only at hl ⊢; omega) (by dsimp only at hl ⊢; omega)) ?_))))
 rw [okF_iff.2 hx]
 refine Ok.cd (fun h => by cases h) (fun _ => Ok.bde (flipped_v (by omega) hx) ?_)
 rw [e]
 refine Ok.bde (same_self (by simp; omega) (by simp; omega)) (Ok.cd (fun h => by cases h) (fun _ => ?_))
 exact Ok.of_eq hK rfl
theorem flp_in {f : api_Field} (hf : OkF f) {j : Nat} (hj : j < f.V.length) : flp (wN f) f.Height.toNat j < f.V.length := by
 have hr := rows hf
 rw [hr] at hj ⊢
 exact flp_lt (wN_pos hf) hj
theorem dp_bd {F B v : Int} (hF : 1 ≤ F ∧ F ≤ 1048576) (hB : 1 ≤ B ∧ B ≤ 1048576) : -1 ≤ dpV F B v ∧ dpV F B v ≤ 1048576 := by
 have hFB := FB_bd hF hB
 unfold dpV
 split
 · omega
 · have hq0 : 0 ≤ (2 * (F * B) + 64 * v) / (128 * v) := Int.ediv_nonneg (by omega) (by omega)
   have := mn_min ((2 * (F * B) + 64 * v) / (128 * v)) 1048576
   omega
theorem u8w {a : Int} (h : 0 ≤ a ∧ a ≤ 255) : wrapF .i64 a = a := wrap64_in (by omega) (by omega)
theorem u8_of {a : Int} (h : (Lit.int .u8 a).wf = true) : 0 ≤ a ∧ a ≤ 255 := by
 simp [Lit.wf, IntKind.min, IntKind.max, IntKind.signed, IntKind.bits] at h
 exact h
theorem flips_v (f g : api_Field) (n' : A2 Int) (w0 : 0 ≤ n'.e0 ∧ n'.e0 ≤ 255) (w1 : 0 ≤ n'.e1 ∧ n'.e1 ≤ 255) : fiduciallaw46_DepthFlips 5000 f g n' = some true := by
 apply Ok.eq
 unfold fiduciallaw46_DepthFlips
 refine Ok.bde known46_v (Ok.cd (fun h => by cases h) (fun _ => Ok.bde (few_v (by omega)) (Ok.cd (fun _ => ok_some.2 rfl) (fun hff => Ok.bde (few_v (by omega)) (Ok.cd (fun _ => ok_some.2 rfl) (fun hgf => ?_))))))
 have f80 := few_len (show fewF f = true by simpa using hff)
 have g80 := few_len (show fewF g = true by simpa using hgf)
 refine Ok.bde (two_v (by omega) (by omega) (by omega) (by omega)) ?_
 by_cases c1 : okF f = true
 rotate_left
 · rw [if_neg c1]; exact Ok.cd (fun _ => ok_some.2 rfl) (fun h => by cases h)
 by_cases c2 : okF g = true
 rotate_left
 · rw [if_pos c1, if_neg c2]; exact Ok.cd (fun _ => ok_some.2 rfl) (fun h => by cases h)
 by_cases c3 : f.Width = g.Width ∧ f.Height = g.Height
 rotate_left
 · rw [if_pos c1, if_pos c2, if_neg c3]; exact Ok.cd (fun _ => ok_some.2 rfl) (fun h => by cases h)
 rw [if_pos c1, if_pos c2, if_pos c3]
 have hf := okF_iff.1 c1
 have hg := okF_iff.1 c2
 obtain ⟨hW, hH⟩ := c3
 have hlen : g.V.length = f.V.length := by rw [rows hf, rows hg]; unfold wN; rw [hW, hH]
 refine Ok.cd (fun h => by cases h) (fun _ => Ok.bde (flipped_v (by omega) hf) (Ok.bde (flipped_v (by omega) hg) ?_))
 have hF := flip_good hf
 have hG := flip_good hg
 have lF : (api_Field.mk f.Width f.Height (flipL f)).V.length = f.V.length := by simp [flipL]
 have lG : (api_Field.mk g.Width g.Height (flipL g)).V.length = f.V.length := by simp [flipL, hlen]
 have hv := fun j hj => hf.v (flp (wN f) f.Height.toNat j) (flp_in hf hj)
 have e0 := u8w w0
 have e1 := u8w w1
 refine Ok.of_eq ?_ rfl
 refine step_flip hf f80 (p := conV f g n'.e0) (q := conV (api_Field.mk f.Width f.Height (flipL f)) (api_Field.mk g.Width g.Height (flipL g)) n'.e0) ?_ ?_ (fun j hj => ?_) (fun j hj => con_flip hf hg hW hH hj) ?_
 · unfold fiduciallaw46_DepthFlips_1
   rw [e0, con_ok (by omega) hf hg hW hH w0.1]; rfl
 · unfold fiduciallaw46_DepthFlips_1
   rw [e0, con_ok (by omega) hF hG hW hH w0.1]
   unfold conL; rw [lF]; rfl
 · have := hf.v j hj
   unfold conV
   split
   · omega
   · split <;> omega
 refine step_flip hf f80 (p := tEnd f) (q := tEnd (api_Field.mk f.Width f.Height (flipL f))) ?_ ?_ (fun j hj => ?_) (fun j hj => turn_flip hf hj) ?_
 · unfold fiduciallaw46_DepthFlips_2
   rw [turn_ok (by omega) hf]; rfl
 · unfold fiduciallaw46_DepthFlips_2
   rw [turn_ok (by omega) hF]
   unfold turnL; rw [lF]; rfl
 · have := bst_lt (tP f j) (wN f - j % wN f)
   have := hf.w
   have := wN_eq hf
   unfold tEnd; omega
 have eB : wrapF .i64 (1 + wrapF .i64 n'.e1) = 1 + n'.e1 := by rw [e1, wrap64_in (by omega) (by omega)]
 refine step_flip hf f80 (p := fun j => dpV 1000 (1 + n'.e1) (f.V.getD j default)) (q := fun j => dpV 1000 (1 + n'.e1) ((flipL f).getD j default)) ?_ ?_ (fun j hj => dp_bd (by omega) (by omega)) (fun j hj => ?_) ?_
 · unfold fiduciallaw46_DepthFlips_3
   rw [eB, depths_ok (by omega) hf (by omega) (by omega)]; rfl
 · unfold fiduciallaw46_DepthFlips_3
   rw [eB, depths_ok (by omega) hF (by omega) (by omega)]
   unfold depL; rw [lF]; rfl
 · show dpV _ _ ((flipL f).getD j default) = _
   unfold flipL; rw [map_at hj]
 refine step_flip hf f80 (p := spk (vF f) n'.e0 n'.e1 (wN f) f.V.length) (q := spk (vF (api_Field.mk f.Width f.Height (flipL f))) n'.e0 n'.e1 (wN f) f.V.length) ?_ ?_ (fun j hj => ?_) (fun j hj => spk_flip hf _ _ hj) ?_
 · unfold fiduciallaw46_DepthFlips_4
   rw [e0, e1, speckles_ok (by omega) hf f80 w0.1]; rfl
 · unfold fiduciallaw46_DepthFlips_4
   rw [e0, e1, speckles_ok (by omega) hF (by rw [lF]; exact f80) w0.1]
   unfold spkL; rw [lF]; rfl
 · have := hf.v j hj
   unfold spk vF
   split <;> omega
 refine step_flip hf f80 (p := fun j => fS f n'.e0 (j / wN f) (j % wN f)) (q := fun j => fS (api_Field.mk f.Width f.Height (flipL f)) n'.e0 (j / wN f) (j % wN f)) ?_ ?_ (fun j hj => ?_) (fun j hj => fill_flip hf _ hj) ?_
 · unfold fiduciallaw46_DepthFlips_5
   rw [e0, fill_ok (by omega) hf w0.1]; rfl
 · unfold fiduciallaw46_DepthFlips_5
   rw [e0, fill_ok (by omega) hF w0.1]
   unfold fillL; rw [lF]; rfl
 · have hl2 : j < (fillL f n'.e0).length := by unfold fillL; simpa using hj
   have := (fill_good hf n'.e0).v j hl2
   have e : (fillL f n'.e0).getD j default = fS f n'.e0 (j / wN f) (j % wN f) := by unfold fillL; rw [map_at hj]
   rw [e] at this
   exact this
 obtain ⟨a1, ha1⟩ := fuse_two hf hg hW hH f80 g80
 obtain ⟨a2, ha2⟩ := fuse_two hF hG hW hH (by rw [lF]; exact f80) (by rw [lG]; exact f80)
 refine step_flip hf f80 (p := medF [f, g]) (q := medF [api_Field.mk f.Width f.Height (flipL f), api_Field.mk g.Width g.Height (flipL g)]) ?_ ?_ (fun j hj => med_bd hf hg hj (by omega)) (fun j hj => med_flip hf hg hW hH hj) rfl
 · unfold fiduciallaw46_DepthFlips_6
   rw [ha1]; rfl
 · unfold fiduciallaw46_DepthFlips_6
   rw [ha2, lF]; rfl
end Go.L

