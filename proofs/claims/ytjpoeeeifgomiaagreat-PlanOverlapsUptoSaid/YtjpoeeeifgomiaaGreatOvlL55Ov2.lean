import Derived.Test.YtjpoeeeifgomiaaGreatOvlL55Ovl
set_option linter.all false
namespace Go.L
open Go Go.Eng
theorem w64m {k : Nat} (h : 1 ≤ k ∧ k ≤ 100000000) : wrapF .i64 ((k : Int) - 1) = ((k - 1 : Nat) : Int) := by rw [wrap64_in (by omega) (by omega)]; omega
structure OkFl (f : api_Flight) : Prop where
 n : 1 ≤ f.Strips.length ∧ f.Strips.length ≤ 20
 m : f.Strips.flatten.length ≤ 300
 ne : ∀ k, k < f.Strips.length → 0 < (f.Strips.getD k default).length
 nr : Near f.Strips
 h : near f.Height
theorem okFl_of {s : api_Survey} {f : api_Flight} {ground : Int} (h1 : f.Strips.length ≤ 20) (h2 : (pts f).length ≤ 300) (h : acode s f ground = 0) : chk s = 0 ∧ OkFl f ∧ near ground ∧ ¬ f.Height ≤ ground := by
 unfold acode at h
 have c1 : chk s = 0 := by
  by_cases k : chk s = 0
  · exact k
  · rw [if_pos k] at h; exact absurd h k
 rw [if_neg (by simpa using c1)] at h
 have c2 : fcode f = 0 := by
  by_cases k : fcode f = 0
  · exact k
  · rw [if_pos k] at h; exact absurd h k
 rw [if_neg (by simpa using c2)] at h
 have c3 : far ground = false := by
  cases k : far ground with
  | false => rfl
  | true => rw [if_pos k] at h; cases h
 rw [if_neg (by rw [c3]; decide)] at h
 by_cases c4 : f.Strips.length = 0 ∨ f.Strips.any noP = true
 · rw [if_pos c4] at h; cases h
 rw [if_neg c4] at h
 have c5 : ¬ f.Height ≤ ground := fun k => by rw [if_pos k] at h; cases h
 have c6 : (far f.Height || (pts f).any badP) = false := by
  cases k : (far f.Height || (pts f).any badP) with
  | false => rfl
  | true => unfold fcode at c2; rw [if_pos k] at c2; cases c2
 rw [Bool.or_eq_false_iff] at c6
 refine ⟨c1, ⟨⟨by omega, h1⟩, h2, fun k hk => ?_, near_of c6.2, far_f.1 c6.1⟩, far_f.1 c3, c5⟩
 have : f.Strips.any noP = false := by cases k : f.Strips.any noP with | false => rfl | true => exact absurd (.inr k) c4
 have := any_false_iff.1 this k hk
 unfold noP at this
 have : ¬ ((f.Strips.getD k default).length : Int) = 0 := by simpa using this
 omega
def tX (f : api_Flight) : Int := topF 0 (xsL f.Strips f.Strips.length)
def tY (f : api_Flight) : Int := topF 0 (ysL f.Strips f.Strips.length)
theorem ovl_ok {n : Nat} (hn : 5000 ≤ n) {s : api_Survey} {f : api_Flight} {ground : Int} (h1 : f.Strips.length ≤ 20) (h2 : (pts f).length ≤ 300) (h : acode s f ground = 0) :
  Ok (plan_Overlaps n s f ground) fun v => Qx v.1 (Rat.divInt 1 1 - Rat.divInt (tX f * s.Focal) (s.Along * (f.Height - ground))) 7 ∧ Qx v.2.1 (Rat.divInt 1 1 - Rat.divInt (tY f * s.Focal) (s.Across * (f.Height - ground))) 7 ∧ v.2.2 = 0 := by
 obtain ⟨hc, ok, hgr, hlow⟩ := okFl_of h1 h2 h
 obtain ⟨oks, _⟩ := chk_zero hc
 unfold plan_Overlaps
 refine Ok.bde (asked_v (by omega) h1 h2 ground) ?_
 rw [h]
 refine Ok.cd (fun h => by cases h) (fun _ => ?_)
 refine Ok.bd (R := fun o => o = (tX f, tY f)) ?_ ?_
 · refine ok_rangeG (σ := Int × Int × Int) (fun (c : Int × Int) x => (c.1, c.2, x)) (len := f.Strips.length) (fun k (c : Int × Int) => c = (topF 0 (xsL f.Strips k), topF 0 (ysL f.Strips k))) (by omega) (by omega) (c0 := (0, 0)) rfl ?_ ?_
   · rintro again k c hk rfl ih
     dsimp only
     have hs := strip_le f.Strips hk
     have hm := ok.m
     have hl := ok.ne k hk
     refine Ok.cd (fun _ => Ok.gd (by rw [inR_nat]; simpa using hk) ?_) (fun h => by simp at h; omega)
     rw [gt_nat]
     refine Ok.bd (R := fun o => o = topF 0 (xsL f.Strips (k + 1))) ?_ ?_
     · refine ok_loop (fun s : Int × Int => ∃ j : Nat, 1 ≤ j ∧ j ≤ (f.Strips.getD k default).length ∧ s.2 = (j : Int) ∧ s.1 = topF (topF 0 (xsL f.Strips k)) (stD (f.Strips.getD k default) j)) (fun s => 400 - s.2.toNat) ?_ n _ ⟨1, by omega, hl, rfl, rfl⟩ (by simp; omega)
       rintro again2 ⟨c, x⟩ ⟨j, j1, j2, e1, e2⟩ ih2
       simp only at e1 e2
       subst e1 e2
       refine Ok.cd (fun hlt => ?_) (fun hge => ?_)
       · have hlt : j < (f.Strips.getD k default).length := by have := of_decide_eq_true hlt; omega
         rw [w64m (k := j) (by omega)]
         refine Ok.gd (by rw [inR_nat]; exact decide_eq_true hlt) (Ok.gd (by rw [inR_nat]; exact decide_eq_true (by omega)) ?_)
         rw [w64n (k := j) (by omega), gt_nat, gt_nat]
         refine ih2 _ ⟨j + 1, by omega, hlt, rfl, ?_⟩ (by simp only; omega)
         rw [stD_succ _ j1, topF_snoc]; rfl
       · have hge : j = (f.Strips.getD k default).length := by have := of_decide_eq_false hge; omega
         subst hge
         exact ok_some.2 (by rw [xsL, topF_app])
     · rintro o rfl
       refine Ok.cd (fun h0 => ?_) (fun h0 => ?_)
       · have h0 : 0 < k := by have := of_decide_eq_true h0; omega
         rw [w64m (k := k) (by omega), gt_nat, gt0, gt0]
         have hl2 := ok.ne (k - 1) (by omega)
         refine Ok.gd (by rw [inR_iff]; omega) (Ok.gd (by rw [inR_nat]; exact decide_eq_true (by omega)) (Ok.gd (by rw [inR_iff]; omega) ?_))
         refine ih (topF 0 (xsL f.Strips (k + 1)), topF 0 (ysL f.Strips (k + 1))) rfl |> fun q => ?_
         have e : topF 0 (ysL f.Strips (k + 1)) = stp (topF 0 (ysL f.Strips k)) (dY f.Strips k) := by rw [ysL, if_pos h0, topF_snoc]
         rw [e] at q
         exact q
       · have h0 : k = 0 := by have := of_decide_eq_false h0; omega
         have e : ysL f.Strips (k + 1) = ysL f.Strips k := by rw [ysL, if_neg (by omega), List.append_nil]
         have q := ih (topF 0 (xsL f.Strips (k + 1)), topF 0 (ysL f.Strips (k + 1))) rfl
         rw [e] at q
         exact q
   · rintro again c rfl
     exact Ok.cd (fun h => by simp at h) (fun _ => ok_some.2 rfl)
 · rintro o rfl
   dsimp only
   have hx := topF_in (xsL f.Strips f.Strips.length) 0 (by omega) (xsL_sm ok.nr _ (Nat.le_refl _))
   have hy := topF_in (ysL f.Strips f.Strips.length) 0 (by omega) (ysL_sm ok.nr ok.ne _ (Nat.le_refl _))
   have key : ∀ (d size : Int), 0 ≤ d ∧ d ≤ 2097152 → 1 ≤ size ∧ size ≤ 1048576 → Ok (plan_Overlaps_1 n d size s.Width s.Height s.Low s.High s.Across s.Along s.Focal s.Overlap s.Sidelap s.Views f.Height f.Strips ground) fun z => Qx z (Rat.divInt 1 1 - Rat.divInt (d * s.Focal) (size * (f.Height - ground))) 7 := by
    intro d size hd hsz
    obtain ⟨e1, b1, b2⟩ := rise_in oks ok.h hgr hlow hsz
    have p := prod_in (a := d) (b := s.Focal) hd oks.fo
    unfold plan_Overlaps_1
    rw [e1, wrap64_in (n := d * s.Focal) (by omega) (by omega)]
    clear e1
    refine Ok.bd (qOf_ok hn (by omega) (by omega) (by omega) (by omega) (by omega)) fun x hx => Ok.bd (qWhole_ok hn (by omega) (by omega)) fun y hy => Ok.bd (qSub_ok hn (j := 3) (k := 3) (by omega) hy hx.1) fun z hz => ok_some.2 hz
   exact Ok.bd (key (tX f) s.Along hx oks.al) fun x hx => Ok.bd (key (tY f) s.Across hy oks.ac) fun y hy => ok_some.2 ⟨hx, hy, rfl⟩
theorem overlap_ok {n : Nat} (hn : 5000 ≤ n) {l : List Int} (hl : l.length ≤ 400) (hs : ∀ d ∈ l, Sm d) {len : api_Rat} {p q : Int} (hp : 1 ≤ p) (hq : 1 ≤ q) (hx : R.Qx len (Rat.divInt p q) 3) :
  Ok (fiduciallaw55_overlap n l len) fun z => R.Qx z (Rat.divInt 1 1 - Rat.divInt (topF 0 l * q) p) 10 := by
 unfold fiduciallaw55_overlap
 refine Ok.bd (R := fun o => o = topF 0 l) ?_ ?_
 · refine ok_rangeR (len := l.length) (fun k (c : Int) => c = topF 0 (l.take k)) (by omega) (by omega) rfl ?_ ?_
   · rintro again k c hk rfl ih
     refine Ok.cd (fun _ => Ok.gd (by rw [inR_nat]; simpa using hk) (ih _ ?_)) (fun h => by simp at h; omega)
     rw [take_succ_getD hk, topF_snoc, gt_nat]; rfl
   · rintro again c rfl
     exact Ok.cd (fun h => by simp at h) (fun _ => ok_some.2 (by rw [List.take_length]))
 · rintro o rfl
   have ht := topF_in l 0 (by omega) hs
   generalize topF 0 l = t at *
   have hne : Rat.divInt p q ≠ 0 := by
    intro e
    have h1 := sgn_sub (p := p) (q := q) (s := 0) (t := 1) (by omega) (by omega)
    rw [e, show Rat.divInt 0 1 = 0 from rfl, Rat.sub_self, Int.mul_one, Int.zero_mul, Int.sub_zero, show sgn (Rat.num 0) = 0 from rfl] at h1
    have := sgn_cases p
    omega
   refine Ok.bd (R.qWhole_ok hn (by omega) (by omega)) fun x h1 => Ok.bd (R.qDivide_ok hn (j := 3) (k := 3) (by omega) h1 hx hne) fun y h2 => Ok.bd (R.qWhole_ok hn (by omega) (by omega)) fun w h3 => ?_
   have h4 := h2.1
   rw [divInt_div (by omega) (by omega) (by omega), Int.one_mul] at h4
   exact Ok.bd (R.qSub_ok hn (j := 3) (k := 6) (by omega) h3 h4) fun z hz => ok_some.2 hz
theorem overlaps_ok {n : Nat} (hn : 5000 ≤ n) {s : api_Survey} {f : api_Flight} {ground : Int} (hc : chk s = 0) (ok : OkFl f) (hgr : near ground) (hlow : ¬ f.Height ≤ ground) :
  Ok (fiduciallaw55_overlaps n s f ground) fun v => R.Qx v.1 (Rat.divInt 1 1 - Rat.divInt (tX f * s.Focal) (s.Along * (f.Height - ground))) 10 ∧ R.Qx v.2 (Rat.divInt 1 1 - Rat.divInt (tY f * s.Focal) (s.Across * (f.Height - ground))) 10 := by
 obtain ⟨oks, _⟩ := chk_zero hc
 have hn1 := ok.n; have hm := ok.m
 unfold fiduciallaw55_overlaps
 refine Ok.bd (size_ok hn oks ok.h hgr hlow) fun w hw => ?_
 refine Ok.bd (R := fun o => o = (xsL f.Strips f.Strips.length, ysL f.Strips f.Strips.length)) ?_ ?_
 · refine ok_rangeG (σ := List Int × List Int × Int) (fun (c : List Int × List Int) x => (c.1, c.2, x)) (len := f.Strips.length) (fun k (c : List Int × List Int) => c = (xsL f.Strips k, ysL f.Strips k)) (by omega) (by omega) (c0 := ([], [])) rfl ?_ ?_
   · rintro again k c hk rfl ih
     dsimp only
     have hs := strip_le f.Strips hk
     have hl := ok.ne k hk
     have lx := xsL_len f.Strips k (by omega)
     have ly := ysL_len f.Strips k
     refine Ok.cd (fun _ => Ok.gd (by rw [inR_nat]; simpa using hk) ?_) (fun h => by simp at h; omega)
     rw [gt_nat]
     refine Ok.bd (R := fun o => o = xsL f.Strips (k + 1)) ?_ ?_
     · refine ok_loop (fun s : List Int × Int => ∃ j : Nat, 1 ≤ j ∧ j ≤ (f.Strips.getD k default).length ∧ s.2 = (j : Int) ∧ s.1 = xsL f.Strips k ++ stD (f.Strips.getD k default) j) (fun s => 400 - s.2.toNat) ?_ n _ ⟨1, by omega, hl, rfl, (List.append_nil _).symm⟩ (by simp; omega)
       rintro again2 ⟨c, x⟩ ⟨j, j1, j2, e1, e2⟩ ih2
       simp only at e1 e2
       subst e1 e2
       refine Ok.cd (fun hlt => ?_) (fun hge => ?_)
       · have hlt : j < (f.Strips.getD k default).length := by have := of_decide_eq_true hlt; omega
         have la : (xsL f.Strips k ++ stD (f.Strips.getD k default) j).length ≤ 400 := by rw [List.length_append, stD_len]; omega
         rw [w64m (k := j) (by omega)]
         refine Ok.gd (by rw [inR_nat]; exact decide_eq_true hlt) (Ok.gd (by rw [inR_nat]; exact decide_eq_true (by omega)) ?_)
         dsimp only
         refine Ok.gd (decide_eq_true (by omega)) (Ok.gd (decide_eq_true (by omega)) ?_)
         rw [w64n (k := j) (by omega), gt_nat, gt_nat]
         refine ih2 _ ⟨j + 1, by omega, hlt, rfl, ?_⟩ (by simp only; omega)
         rw [stD_succ _ j1, ← List.append_assoc]; rfl
       · have hge : j = (f.Strips.getD k default).length := by have := of_decide_eq_false hge; omega
         subst hge
         exact ok_some.2 rfl
     · rintro o rfl
       refine Ok.cd (fun h0 => ?_) (fun h0 => ?_)
       · have h0 : 0 < k := by have := of_decide_eq_true h0; omega
         rw [w64m (k := k) (by omega), gt_nat, gt0, gt0]
         have hl2 := ok.ne (k - 1) (by omega)
         refine Ok.gd (by rw [inR_iff]; omega) (Ok.gd (by rw [inR_nat]; exact decide_eq_true (by omega)) (Ok.gd (by rw [inR_iff]; omega) ?_))
         refine Ok.gd (decide_eq_true (by omega)) (Ok.gd (decide_eq_true (by omega)) ?_)
         have q := ih (xsL f.Strips (k + 1), ysL f.Strips (k + 1)) rfl
         have e : ysL f.Strips (k + 1) = ysL f.Strips k ++ [dY f.Strips k] := by rw [ysL, if_pos h0]
         rw [e] at q
         exact q
       · have h0 : k = 0 := by have := of_decide_eq_false h0; omega
         have e : ysL f.Strips (k + 1) = ysL f.Strips k := by rw [ysL, if_neg (by omega), List.append_nil]
         have q := ih (xsL f.Strips (k + 1), ysL f.Strips (k + 1)) rfl
         rw [e] at q
         exact q
   · rintro again c rfl
     exact Ok.cd (fun h => by simp at h) (fun _ => ok_some.2 rfl)
 · rintro o rfl
   dsimp only
   have hf := oks.fo
   have r1 := (rise_in oks ok.h hgr hlow oks.al).2
   have r2 := (rise_in oks ok.h hgr hlow oks.ac).2
   have lx := xsL_len f.Strips f.Strips.length (Nat.le_refl _)
   rw [List.take_length] at lx
   have ly := ysL_len f.Strips f.Strips.length
   refine Ok.bd (overlap_ok hn (by omega) (xsL_sm ok.nr _ (Nat.le_refl _)) r1.1 hf.1 hw.1) fun x hx => Ok.bd (overlap_ok hn (by omega) (ysL_sm ok.nr ok.ne _ (Nat.le_refl _)) r2.1 hf.1 hw.2) fun y hy => ok_some.2 ⟨hx, hy⟩
theorem overlaps_v (s : api_Survey) (f : api_Flight) (ground : Int) (hb : fsz f ≤ 1048576) : fiduciallaw55_PlanOverlaps 5000 s f ground = some true := by
 apply Ok.eq
 unfold fiduciallaw55_PlanOverlaps
 refine Ok.bde known55_v (Ok.cd (fun h => by cases h) (fun _ => Ok.bde (few_v (by omega) hb 40) (Ok.cd (fun _ => ok_some.2 rfl) (fun hfew => ?_))))
 obtain ⟨f1, f2⟩ := dec_of hfew
 have f2 : (pts f).length ≤ 300 := by omega
 have hmiss : ∀ c : Int, Ok (cdO (((f.Strips.length : Int) : Int) == 0) (some (6)) (bdO (slices_ContainsFunc_fiducial_api_Pix_fiducial_api_Pix_of_fiduciallaw55_PlanOverlaps_1 5000 f.Strips) fun v16 => (cdO v16 (some (6)) (some c)))) fun o => o = if f.Strips.length = 0 ∨ f.Strips.any noP = true then 6 else c := by
  intro c
  refine Ok.cd (fun h => ok_some.2 ?_) (fun h3 => ?_)
  · rw [if_pos (.inl (by have : (f.Strips.length : Int) = 0 := by simpa using h
                         omega))]
  have h3 : f.Strips.length ≠ 0 := by have : ¬ (f.Strips.length : Int) = 0 := by simpa using h3
                                      omega
  refine Ok.bde (any_o (by omega) (by omega)) (Ok.cd (fun h => ok_some.2 ?_) (fun h4 => ok_some.2 ?_))
  · rw [if_pos (.inr h)]
  · rw [if_neg (by rw [h4]; simp; intro e; exact h3 (by rw [e]; rfl))]
 have hcode : Ok (cdO ((rcode s f ground : Int) == 0) (cdO (((f.Strips.length : Int) : Int) == 0) (some (6)) (bdO (slices_ContainsFunc_fiducial_api_Pix_fiducial_api_Pix_of_fiduciallaw55_PlanOverlaps_1 5000 f.Strips) fun v16 => (cdO v16 (some (6)) (some (rcode s f ground)))))
   (cdO ((rcode s f ground : Int) == 20) (cdO (((f.Strips.length : Int) : Int) == 0) (some (6)) (bdO (slices_ContainsFunc_fiducial_api_Pix_fiducial_api_Pix_of_fiduciallaw55_PlanOverlaps_1 5000 f.Strips) fun v21 => (cdO v21 (some (6)) (some (rcode s f ground))))) (some (rcode s f ground)))) fun o => o = acode s f ground := by
  have hc := chk_cases s
  have hfc := fcode_cases f
  have hm := hmiss (rcode s f ground)
  have fin : ∀ c : Int, c ≠ 0 → c ≠ 20 → rcode s f ground = c → acode s f ground = c → Ok (cdO ((c : Int) == 0) (cdO (((f.Strips.length : Int) : Int) == 0) (some (6)) (bdO (slices_ContainsFunc_fiducial_api_Pix_fiducial_api_Pix_of_fiduciallaw55_PlanOverlaps_1 5000 f.Strips) fun v16 => (cdO v16 (some (6)) (some c))))
   (cdO ((c : Int) == 20) (cdO (((f.Strips.length : Int) : Int) == 0) (some (6)) (bdO (slices_ContainsFunc_fiducial_api_Pix_fiducial_api_Pix_of_fiduciallaw55_PlanOverlaps_1 5000 f.Strips) fun v21 => (cdO v21 (some (6)) (some c)))) (some c))) fun o => o = acode s f ground := by
   intro c h0 h20 _ ha
   rw [show (c == 0) = false by simpa using h0, show (c == 20) = false by simpa using h20]
   exact Ok.cd (fun h => by cases h) (fun _ => Ok.cd (fun h => by cases h) (fun _ => ok_some.2 ha.symm))
  by_cases k1 : chk s = 0
  rotate_left
  · have e1 : rcode s f ground = chk s := if_pos k1
    have e2 : acode s f ground = chk s := if_pos k1
    rw [e1]; exact fin _ k1 (by omega) e1 e2
  by_cases k2 : fcode f = 0
  rotate_left
  · have n1 : ¬ (chk s ≠ 0) := fun h => h k1
    have e1 : rcode s f ground = fcode f := by unfold rcode; rw [if_neg n1, if_pos k2]
    have e2 : acode s f ground = fcode f := by unfold acode; rw [if_neg n1, if_pos k2]
    rw [e1]; exact fin _ k2 (by omega) e1 e2
  have n1 : ¬ (chk s ≠ 0) := fun h => h k1
  have n2 : ¬ (fcode f ≠ 0) := fun h => h k2
  by_cases k3 : far ground = true
  · have e1 : rcode s f ground = 2 := by unfold rcode; rw [if_neg n1, if_neg n2, if_pos k3]
    have e2 : acode s f ground = 2 := by unfold acode; rw [if_neg n1, if_neg n2, if_pos k3]
    rw [e1]; exact fin _ (by omega) (by omega) e1 e2
  have e2 : acode s f ground = if f.Strips.length = 0 ∨ f.Strips.any noP = true then 6 else rcode s f ground := by
   unfold acode rcode; rw [if_neg n1, if_neg n2, if_neg k3, if_neg n1, if_neg n2, if_neg k3]
  rw [e2]
  have e1 : rcode s f ground = 20 ∨ rcode s f ground = 0 := by
   unfold rcode; rw [if_neg n1, if_neg n2, if_neg k3]
   split
   · exact .inl rfl
   · exact .inr rfl
  rcases e1 with e1 | e1
  · rw [e1] at hm ⊢
    exact Ok.cd (fun h => by cases h) (fun _ => Ok.cd (fun _ => hm) (fun h => by cases h))
  · rw [e1] at hm ⊢
    exact Ok.cd (fun _ => hm) (fun h => by cases h)
 by_cases ha : acode s f ground = 0
 · obtain ⟨hc, ok, hgr, hlow⟩ := okFl_of f1 f2 ha
   refine Ok.bd (ovl_ok (by omega) f1 f2 ha) fun v hv => Ok.bde (rasked_v (by omega) f1 f2 ground) (Ok.bd hcode fun c hcc => ?_)
   obtain ⟨v1, v2, v3⟩ := v
   obtain ⟨g1, g2, g3⟩ := hv
   simp only at g1 g2 g3
   subst g3
   subst hcc
   rw [ha]
   refine Ok.cd (fun h => by cases h) (fun _ => Ok.bd (overlaps_ok (by omega) hc ok hgr hlow) fun w hw => ?_)
   refine Ok.bde (number_ok (j := 7) (k := 10) (by omega) (by omega) g1 hw.1) ?_
   exact Ok.cd (fun _ => Ok.bde (number_ok (j := 7) (k := 10) (by omega) (by omega) g2 hw.2) (ok_some.2 rfl)) (fun h => by cases h)
 · have hO : plan_Overlaps 5000 s f ground = some (zR, zR, acode s f ground) := by
    apply Ok.eq
    unfold plan_Overlaps
    refine Ok.bde (asked_v (by omega) f1 f2 ground) ?_
    rw [show (acode s f ground != 0) = true by simpa using ha]
    exact Ok.cd (fun _ => ok_some.2 rfl) (fun h => by cases h)
   refine Ok.bde hO (Ok.bde (rasked_v (by omega) f1 f2 ground) (Ok.bd hcode fun c hcc => ?_))
   subst hcc
   rw [show (acode s f ground != 0) = true by simpa using ha]
   refine Ok.cd (fun _ => ?_) (fun h => by cases h)
   show Ok (bdO (cdO (acode s f ground == acode s f ground) _ _) _) _
   rw [show (acode s f ground == acode s f ground) = true by simp]
   exact ok_some.2 rfl
end Go.L

