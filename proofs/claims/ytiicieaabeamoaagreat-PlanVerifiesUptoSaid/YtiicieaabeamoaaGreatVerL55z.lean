import Derived.Test.YtiicieaabeamoaaGreatVerL55y
import Derived.Test.YtiicieaabeamoaaGreatVerLkp
set_option linter.all false
namespace Go.L
open Go Go.Eng
theorem askedT_v {n : Nat} (hn : 1000 ≤ n) {s : api_Survey} {f : api_Flight} (h1 : f.Strips.length ≤ 20) (h2 : (pts f).length ≤ 300) (ground : Int) : plan_asked n s f ground true = some (rcode s f ground) := by
 apply Ok.eq
 unfold plan_asked rcode
 refine Ok.bde (check_v n s) (Ok.cd (fun h => ok_some.2 ?_) (fun h => ?_))
 · rw [if_pos (by simpa using h)]
 rw [if_neg (by simpa using h)]
 refine Ok.bde (checkFlight_v hn h1 h2) (Ok.cd (fun h => ok_some.2 ?_) (fun h => ?_))
 · rw [if_pos (by simpa using h)]
 rw [if_neg (by simpa using h)]
 refine Ok.bde (within_v ..) (Ok.cd (fun h => ok_some.2 ?_) (fun h => ?_))
 · rw [if_pos (far_t.2 (not_dec h))]
 rw [if_neg (by rw [far_f.2 (dec_of h)]; decide)]
 refine Ok.cd (fun h => by cases h) (fun _ => ?_)
 exact Ok.cd (fun h => ok_some.2 (by rw [if_pos (of_decide_eq_true h)])) (fun h => ok_some.2 (by rw [if_neg (of_decide_eq_false h)]))
theorem growP_v {n : Nat} {k : Nat} (hk : k ≤ 1000) : slices_Grow_fiducial_api_Pix_fiducial_api_Pix_w n (k : Int) = some [] := by
 apply Ok.eq
 unfold slices_Grow_fiducial_api_Pix_fiducial_api_Pix_w
 rw [Int.sub_zero, wrap64_in (by omega) (by omega)]
 refine Ok.gd (by rw [decide_eq_false (by omega)]; rfl) (Ok.cd (fun h => ?_) (fun _ => ok_some.2 rfl))
 have h := of_decide_eq_true h
 refine Ok.gd (decide_eq_true (by omega)) (Ok.gd (decide_eq_true (by omega)) (Ok.gd (decide_eq_true (by omega)) (Ok.gd (by rw [inS_iff]; omega) (ok_some.2 ?_))))
 rfl
theorem concatP_v {n : Nat} (hn : 1000 ≤ n) {ls : List (List api_Pix)} (h1 : ls.length ≤ 20) (h2 : ls.flatten.length ≤ 300) : slices_Concat_fiducial_api_Pix_fiducial_api_Pix n ls = some ls.flatten := by
 apply Ok.eq
 unfold slices_Concat_fiducial_api_Pix_fiducial_api_Pix
 refine Ok.bd (R := fun o => o = ((ls.flatten.length : Nat) : Int)) ?_ ?_
 · refine ok_rangeR (len := ls.length) (fun k (c : Int) => c = (((ls.take k).flatten.length : Nat) : Int)) (by omega) (by omega) rfl ?_ ?_
   · rintro again k c hk rfl ih
     have hs := strip_le ls hk
     refine Ok.cd (fun _ => Ok.gd (by rw [inR_nat]; simpa using hk) ?_) (fun h => by simp at h; omega)
     rw [gt_nat, wrap64_in (n := (((ls.take k).flatten.length : Nat) : Int) + ((ls.getD k default).length : Int)) (by omega) (by omega)]
     refine Ok.gd (by rw [decide_eq_false (by omega)]; rfl) (ih _ ?_)
     rw [flat_take_succ ls hk, List.length_append]; omega
   · rintro again c rfl
     exact Ok.cd (fun h => by simp at h) (fun _ => ok_some.2 (by rw [List.take_length]))
 · rintro o rfl
   refine Ok.bde (growP_v (by omega)) ?_
   refine Ok.bd (R := fun o => o = ls.flatten) ?_ (fun o ho => ok_some.2 ho)
   refine ok_rangeR (len := ls.length) (fun k (c : List api_Pix) => c = (ls.take k).flatten) (by omega) (by omega) rfl ?_ ?_
   · rintro again k c hk rfl ih
     have hs := strip_le ls hk
     refine Ok.cd (fun _ => Ok.gd (by rw [inR_nat]; simpa using hk) ?_) (fun h => by simp at h; omega)
     rw [gt_nat]
     refine Ok.gd (decide_eq_true (by omega)) (Ok.gd (decide_eq_true (by omega)) (ih _ ?_))
     rw [flat_take_succ ls hk]
   · rintro again c rfl
     exact Ok.cd (fun h => by simp at h) (fun _ => ok_some.2 (by rw [List.take_length]))
def bestR (cnt : Int → Int → Int) (m : Int) (L : List Int) (c : Int × Int × Int) : Int × Int × Int := L.foldl (fun c m' => if cnt m m' < c.1 then (cnt m m', m, m') else c) c
def bestA (cnt : Int → Int → Int) (L L' : List Int) (c : Int × Int × Int) : Int × Int × Int := L.foldl (fun c m => bestR cnt m L' c) c
theorem bestR_or {cnt : Int → Int → Int} {m : Int} : ∀ (L : List Int) (c : Int × Int × Int), bestR cnt m L c = c ∨ ∃ m', m' ∈ L ∧ bestR cnt m L c = (cnt m m', m, m')
 | [], c => .inl rfl
 | a :: L, c => by
  unfold bestR
  rw [List.foldl_cons]
  have h := bestR_or (cnt := cnt) (m := m) L (if cnt m a < c.1 then (cnt m a, m, a) else c)
  unfold bestR at h
  rcases h with h | ⟨m', h1, h2⟩
  · rw [h]
    split
    · exact .inr ⟨a, by simp, rfl⟩
    · exact .inl rfl
  · exact .inr ⟨m', List.mem_cons_of_mem _ h1, h2⟩
theorem bestA_or {cnt : Int → Int → Int} {L' : List Int} : ∀ (L : List Int) (c : Int × Int × Int), bestA cnt L L' c = c ∨ ∃ m m', m ∈ L ∧ m' ∈ L' ∧ bestA cnt L L' c = (cnt m m', m, m')
 | [], c => .inl rfl
 | a :: L, c => by
  unfold bestA
  rw [List.foldl_cons]
  have h := bestA_or (cnt := cnt) (L' := L') L (bestR cnt a L' c)
  unfold bestA at h
  rcases h with h | ⟨m, m', h1, h2, h3⟩
  · rw [h]
    rcases bestR_or (cnt := cnt) (m := a) L' c with h | ⟨m', h1, h2⟩
    · exact .inl h
    · exact .inr ⟨a, m', by simp, h1, h2⟩
  · exact .inr ⟨m, m', List.mem_cons_of_mem _ h1, h2, h3⟩
def cntP (P : List api_Pix) (u zx zy : Int) (m m' : Int) : Int := ((P.countP fun p => nearB u zx p.X m && nearB u zy p.Y m' : Nat) : Int)
theorem countP_range {α : Type} [Inhabited α] (q : α → Bool) : ∀ (l : List α), (List.range l.length).countP (fun k => q (l.getD k default)) = l.countP q
 | [] => rfl
 | a :: l => by
  rw [List.length_cons, List.range_succ_eq_map, List.countP_cons, List.countP_map, List.countP_cons]
  have := countP_range q l
  have e : ((fun k => q ((a :: l).getD k default)) ∘ Nat.succ) = fun k => q (l.getD k default) := by funext k; rfl
  rw [e, this]; rfl
theorem cnt_v {n : Nat} (hn : 10 < n) {P : List api_Pix} (hP : P.length ≤ 12) (u zx zy m m' : Int) : plan_shared n (setA u zx (P.map (·.X)) m) (setA u zy (P.map (·.Y)) m') = some (cntP P u zx zy m m') := by
 unfold setA setZ
 rw [List.length_map, List.length_map]
 have b1 := maskN_lt (fun k => nearB u zx ((P.map (·.X)).getD k default) m) P.length
 have b2 := maskN_lt (fun k => nearB u zy ((P.map (·.Y)).getD k default) m') P.length
 have hp : 2 ^ P.length ≤ 2 ^ 12 := Nat.pow_le_pow_right (by omega) hP
 have h12 : (2 : Nat) ^ 12 = 4096 := rfl
 rw [shared_v hn (by omega) (by omega), pop_both _ _ hP]
 unfold cntP
 congr 2
 refine (List.countP_congr fun k hk => ?_).trans (countP_range (fun p => nearB u zx p.X m && nearB u zy p.Y m') P)
 rw [getD_map (List.mem_range.1 hk), getD_map (List.mem_range.1 hk)]
theorem cover_ok {n : Nat} (hn : 5000 ≤ n) {s : api_Survey} {f : api_Flight} {ground : Int} (ok : OkS s) (h1 : f.Strips.length ≤ 20) (h2 : (pts f).length ≤ 12) (hp : ∀ p ∈ pts f, near p.X ∧ near p.Y) (hh : near f.Height) (hg : near ground) (hlow : ¬ f.Height ≤ ground) :
  Ok (plan_cover n s f ground) fun v =>
   v.1 = (bestA (cntP (pts f) (4 * s.Focal) (s.Along * (f.Height - ground)) (s.Across * (f.Height - ground))) (axM s.Width (4 * s.Focal) (s.Along * (f.Height - ground)) ((pts f).map (·.X))) (axM s.Height (4 * s.Focal) (s.Across * (f.Height - ground)) ((pts f).map (·.Y))) (257, 0, 0)).1 ∧
   Qx v.2.X (Rat.divInt (bestA (cntP (pts f) (4 * s.Focal) (s.Along * (f.Height - ground)) (s.Across * (f.Height - ground))) (axM s.Width (4 * s.Focal) (s.Along * (f.Height - ground)) ((pts f).map (·.X))) (axM s.Height (4 * s.Focal) (s.Across * (f.Height - ground)) ((pts f).map (·.Y))) (257, 0, 0)).2.1 (4 * s.Focal)) 3 ∧
   Qx v.2.Y (Rat.divInt (bestA (cntP (pts f) (4 * s.Focal) (s.Along * (f.Height - ground)) (s.Across * (f.Height - ground))) (axM s.Width (4 * s.Focal) (s.Along * (f.Height - ground)) ((pts f).map (·.X))) (axM s.Height (4 * s.Focal) (s.Across * (f.Height - ground)) ((pts f).map (·.Y))) (257, 0, 0)).2.2 (4 * s.Focal)) 3 := by
 have hfo := ok.fo
 obtain ⟨e1, b1, b2⟩ := rise_in ok hh hg hlow ok.al
 obtain ⟨e2, b3, b4⟩ := rise_in ok hh hg hlow ok.ac
 unfold plan_cover
 rw [e1, e2]
 clear e1 e2
 refine Ok.bde (concatP_v (by omega) h1 (by unfold pts at h2; omega)) ?_
 change Ok (bdO _ _) _
 rw [show f.Strips.flatten = pts f from rfl]
 have axx : AxIn s.Width s.Focal (s.Along * (f.Height - ground)) ((pts f).map (·.X)) := ⟨ok.w, ok.fo, by omega, by simpa using h2, fun x hx => by
  obtain ⟨p, hpp, rfl⟩ := List.mem_map.1 hx; exact (hp p hpp).1⟩
 have axy : AxIn s.Height s.Focal (s.Across * (f.Height - ground)) ((pts f).map (·.Y)) := ⟨ok.h, ok.fo, by omega, by simpa using h2, fun x hx => by
  obtain ⟨p, hpp, rfl⟩ := List.mem_map.1 hx; exact (hp p hpp).2⟩
 generalize s.Along * (f.Height - ground) = zx at *
 generalize s.Across * (f.Height - ground) = zy at *
 generalize hPP : pts f = P at *
 refine Ok.bd (R := fun o => o = (P.map (·.X), P.map (·.Y))) ?_ ?_
 · refine ok_rangeG (σ := List Int × List Int × Int) (fun (c : List Int × List Int) x => (c.1, c.2, x)) (len := P.length) (fun k (c : List Int × List Int) => c = ((P.take k).map (·.X), (P.take k).map (·.Y))) (by omega) (by omega) (c0 := ([], [])) rfl ?_ ?_
   · rintro again k c hk rfl ih
     dsimp only
     have lk : (P.take k).length ≤ 12 := by rw [List.length_take]; omega
     refine Ok.cd (fun _ => Ok.gd (by rw [inR_nat]; simpa using hk) ?_) (fun h => by simp at h; omega)
     rw [gt_nat, List.length_map, List.length_map]
     refine Ok.gd (decide_eq_true (by omega)) (Ok.gd (decide_eq_true (by omega)) (Ok.gd (decide_eq_true (by omega)) (Ok.gd (decide_eq_true (by omega)) ?_)))
     have q := ih ((P.take (k + 1)).map (·.X), (P.take (k + 1)).map (·.Y)) rfl
     rw [take_succ_getD hk, List.map_append, List.map_append] at q
     exact q
   · rintro again c rfl
     exact Ok.cd (fun h => by simp at h) (fun _ => ok_some.2 (by rw [List.take_length]))
 · rintro o rfl
   dsimp only
   refine Ok.bde (axis_v (by omega) axx) (Ok.bde (axis_v (by omega) axy) ?_)
   have lx := axM_len s.Width (4 * s.Focal) zx (P.map (·.X))
   have ly := axM_len s.Height (4 * s.Focal) zy (P.map (·.Y))
   rw [List.length_map] at lx ly
   have ix := axM_in axx
   have iy := axM_in axy
   have nx := axx.nu; have ny := axy.nu
   generalize axM s.Width (4 * s.Focal) zx (P.map (·.X)) = L at *
   generalize axM s.Height (4 * s.Focal) zy (P.map (·.Y)) = L' at *
   dsimp only
   refine Ok.bd (R := fun o => o = bestA (cntP P (4 * s.Focal) zx zy) L L' (257, 0, 0)) ?_ ?_
   · refine ok_rangeG (σ := Int × Int × Int × Int) (fun (c : Int × Int × Int) x => (c.1, c.2.1, c.2.2, x)) (len := L.length) (fun k (c : Int × Int × Int) => c = bestA (cntP P (4 * s.Focal) zx zy) (L.take k) L' (257, 0, 0)) (by omega) (by omega) (c0 := (257, 0, 0)) rfl ?_ ?_
     · rintro again k c hk rfl ih
       dsimp only
       refine Ok.cd (fun _ => ?_) (fun h => by simp at h; omega)
       have hs : bestA (cntP P (4 * s.Focal) zx zy) (L.take (k + 1)) L' (257, 0, 0) = bestR (cntP P (4 * s.Focal) zx zy) (L.getD k default) L' (bestA (cntP P (4 * s.Focal) zx zy) (L.take k) L' (257, 0, 0)) := by
        unfold bestA; rw [take_succ_getD hk, List.foldl_append]; rfl
       have q := ih _ hs.symm
       generalize bestA (cntP P (4 * s.Focal) zx zy) (L.take k) L' (257, 0, 0) = c0 at *
       refine Ok.bd (R := fun o => o = bestR (cntP P (4 * s.Focal) zx zy) (L.getD k default) L' c0) ?_ (fun o ho => by subst ho; exact q)
       refine ok_rangeG (σ := Int × Int × Int × Int) (fun (c : Int × Int × Int) x => (c.1, c.2.1, c.2.2, x)) (len := L'.length) (fun j (c : Int × Int × Int) => c = bestR (cntP P (4 * s.Focal) zx zy) (L.getD k default) (L'.take j) c0) (by omega) (by omega) (c0 := c0) rfl ?_ ?_
       · rintro again2 j c hj rfl ih2
         dsimp only
         refine Ok.cd (fun _ => Ok.gd (by rw [inR_nat, List.length_map]; simpa using hk) (Ok.gd (by rw [inR_nat, List.length_map]; simpa using hj) ?_)) (fun h => by simp at h; omega)
         rw [gt_nat, gt_nat, getD_map hk, getD_map hj, gt_nat, gt_nat]
         have hs2 : bestR (cntP P (4 * s.Focal) zx zy) (L.getD k default) (L'.take (j + 1)) c0 = (fun c m' => if cntP P (4 * s.Focal) zx zy (L.getD k default) m' < c.1 then (cntP P (4 * s.Focal) zx zy (L.getD k default) m', L.getD k default, m') else c) (bestR (cntP P (4 * s.Focal) zx zy) (L.getD k default) (L'.take j) c0) (L'.getD j default) := by
          unfold bestR; rw [take_succ_getD hj, List.foldl_append]; rfl
         have q2 := ih2 _ rfl
         rw [hs2] at q2
         generalize bestR (cntP P (4 * s.Focal) zx zy) (L.getD k default) (L'.take j) c0 = c1 at *
         dsimp only at q2
         refine Ok.bde (cnt_v (by omega) h2 (4 * s.Focal) zx zy (L.getD k default) (L'.getD j default)) ?_
         refine Ok.cd (fun h => ?_) (fun h => ?_)
         · rw [if_pos (of_decide_eq_true h)] at q2
           exact Ok.gd (by rw [inR_nat]; simpa using hk) (Ok.gd (by rw [inR_nat]; simpa using hj) q2)
         · rw [if_neg (of_decide_eq_false h)] at q2
           exact q2
       · rintro again2 c rfl
         refine Ok.cd (fun h => by simp at h) (fun _ => ok_some.2 ?_)
         rw [show L'.take L'.length = L' from List.take_length]
     · rintro again c rfl
       refine Ok.cd (fun h => by simp at h) (fun _ => ok_some.2 ?_)
       rw [show L.take L.length = L from List.take_length]
   · rintro o rfl
     have hb : (0 ≤ (bestA (cntP P (4 * s.Focal) zx zy) L L' (257, 0, 0)).2.1 ∧ (bestA (cntP P (4 * s.Focal) zx zy) L L' (257, 0, 0)).2.1 ≤ 4398046511104) ∧ (0 ≤ (bestA (cntP P (4 * s.Focal) zx zy) L L' (257, 0, 0)).2.2 ∧ (bestA (cntP P (4 * s.Focal) zx zy) L L' (257, 0, 0)).2.2 ≤ 4398046511104) := by
      rcases bestA_or (cnt := cntP P (4 * s.Focal) zx zy) (L' := L') L (257, 0, 0) with h | ⟨m, m', h1, h2, h3⟩
      · rw [h]; decide
      · rw [h3]
        dsimp only
        have := ix m h1; have := iy m' h2
        constructor <;> constructor <;> omega
     generalize bestA (cntP P (4 * s.Focal) zx zy) L L' (257, 0, 0) = b at *
     obtain ⟨b1, b2, b3⟩ := b
     dsimp only at hb ⊢
     rw [wrap64_in (n := 4 * s.Focal) (by omega) (by omega)]
     refine Ok.bd (qOf_ok hn (by omega) (by omega) (by omega) (by omega) (by omega)) fun x hx => Ok.bd (qOf_ok hn (by omega) (by omega) (by omega) (by omega) (by omega)) fun y hy => ok_some.2 ⟨rfl, hx.1, hy.1⟩
end Go.L

