import Derived.Test.YtiicieaabeamoaaGreatPasL55Ovl
set_option linter.all false
namespace Go.L
open Go Go.Eng
theorem w64m {k : Nat} (h : 1 ≤ k ∧ k ≤ 100000000) : wrapF .i64 ((k : Int) - 1) = ((k - 1 : Nat) : Int) := by rw [wrap64_in (by omega) (by omega)]; omega
structure OkFl (f : api_Flight) : Prop where
 n : 1 ≤ f.Strips.length ∧ f.Strips.length ≤ 20
 m : f.Strips.flatten.length ≤ 300
 ne : ∀ k, k < f.Strips.length → 0 < (f.Strips.getD k default).length
 nr : Near f.Strips
 h : near f.Height
theorem okFl_of {s : api_Survey} {f : api_Flight} {ground : Int} (h1 : f.Strips.length ≤ 20) (h2 : (pts f).length ≤ 300) (h : acode s f ground = 0) : chk s = 0 ∧ OkFl f ∧ near ground ∧ ¬ f.Height ≤ ground := by
 unfold acode at h
 have c1 : chk s = 0 := by
  by_cases k : chk s = 0
  · exact k
  · rw [if_pos k] at h; exact absurd h k
 rw [if_neg (by simpa using c1)] at h
 have c2 : fcode f = 0 := by
  by_cases k : fcode f = 0
  · exact k
  · rw [if_pos k] at h; exact absurd h k
 rw [if_neg (by simpa using c2)] at h
 have c3 : far ground = false := by
  cases k : far ground with
  | false => rfl
  | true => rw [if_pos k] at h; cases h
 rw [if_neg (by rw [c3]; decide)] at h
 by_cases c4 : f.Strips.length = 0 ∨ f.Strips.any noP = true
 · rw [if_pos c4] at h; cases h
 rw [if_neg c4] at h
 have c5 : ¬ f.Height ≤ ground := fun k => by rw [if_pos k] at h; cases h
 have c6 : (far f.Height || (pts f).any badP) = false := by
  cases k : (far f.Height || (pts f).any badP) with
  | false => rfl
  | true => unfold fcode at c2; rw [if_pos k] at c2; cases c2
 rw [Bool.or_eq_false_iff] at c6
 refine ⟨c1, ⟨⟨by omega, h1⟩, h2, fun k hk => ?_, near_of c6.2, far_f.1 c6.1⟩, far_f.1 c3, c5⟩
 have : f.Strips.any noP = false := by cases k : f.Strips.any noP with | false => rfl | true => exact absurd (.inr k) c4
 have := any_false_iff.1 this k hk
 unfold noP at this
 have : ¬ ((f.Strips.getD k default).length : Int) = 0 := by simpa using this
 omega
def tX (f : api_Flight) : Int := topF 0 (xsL f.Strips f.Strips.length)
def tY (f : api_Flight) : Int := topF 0 (ysL f.Strips f.Strips.length)
theorem ovl_ok {n : Nat} (hn : 5000 ≤ n) {s : api_Survey} {f : api_Flight} {ground : Int} (h1 : f.Strips.length ≤ 20) (h2 : (pts f).length ≤ 300) (h : acode s f ground = 0) :
  Ok (plan_Overlaps n s f ground) fun v => Qx v.1 (Rat.divInt 1 1 - Rat.divInt (tX f * s.Focal) (s.Along * (f.Height - ground))) 7 ∧ Qx v.2.1 (Rat.divInt 1 1 - Rat.divInt (tY f * s.Focal) (s.Across * (f.Height - ground))) 7 ∧ v.2.2 = 0 := by
 obtain ⟨hc, ok, hgr, hlow⟩ := okFl_of h1 h2 h
 obtain ⟨oks, _⟩ := chk_zero hc
 unfold plan_Overlaps
 refine Ok.bde (asked_v (by omega) h1 h2 ground) ?_
 rw [h]
 refine Ok.cd (fun h => by cases h) (fun _ => ?_)
 refine Ok.bd (R := fun o => o = (tX f, tY f)) ?_ ?_
 · refine ok_rangeG (σ := Int × Int × Int) (fun (c : Int × Int) x => (c.1, c.2, x)) (len := f.Strips.length) (fun k (c : Int × Int) => c = (topF 0 (xsL f.Strips k), topF 0 (ysL f.Strips k))) (by omega) (by omega) (c0 := (0, 0)) rfl ?_ ?_
   · rintro again k c hk rfl ih
     dsimp only
     have hs := strip_le f.Strips hk
     have hm := ok.m
     have hl := ok.ne k hk
     refine Ok.cd (fun _ => Ok.gd (by rw [inR_nat]; simpa using hk) ?_) (fun h => by simp at h; omega)
     rw [gt_nat]
     refine Ok.bd (R := fun o => o = topF 0 (xsL f.Strips (k + 1))) ?_ ?_
     · refine ok_loop (fun s : Int × Int => ∃ j : Nat, 1 ≤ j ∧ j ≤ (f.Strips.getD k default).length ∧ s.2 = (j : Int) ∧ s.1 = topF (topF 0 (xsL f.Strips k)) (stD (f.Strips.getD k default) j)) (fun s => 400 - s.2.toNat) ?_ n _ ⟨1, by omega, hl, rfl, rfl⟩ (by simp; omega)
       rintro again2 ⟨c, x⟩ ⟨j, j1, j2, e1, e2⟩ ih2
       simp only at e1 e2
       subst e1 e2
       refine Ok.cd (fun hlt => ?_) (fun hge => ?_)
       · have hlt : j < (f.Strips.getD k default).length := by have := of_decide_eq_true hlt; omega
         rw [w64m (k := j) (by omega)]
         refine Ok.gd (by rw [inR_nat]; exact decide_eq_true hlt) (Ok.gd (by rw [inR_nat]; exact decide_eq_true (by omega)) ?_)
         rw [w64n (k := j) (by omega), gt_nat, gt_nat]
         refine ih2 _ ⟨j + 1, by omega, hlt, rfl, ?_⟩ (by simp only; omega)
         rw [stD_succ _ j1, topF_snoc]; rfl
       · have hge : j = (f.Strips.getD k default).length := by have := of_decide_eq_false hge; omega
         subst hge
         exact ok_some.2 (by rw [xsL, topF_app])
     · rintro o rfl
       refine Ok.cd (fun h0 => ?_) (fun h0 => ?_)
       · have h0 : 0 < k := by have := of_decide_eq_true h0; omega
         rw [w64m (k := k) (by omega), gt_nat, gt0, gt0]
         have hl2 := ok.ne (k - 1) (by omega)
         refine Ok.gd (by rw [inR_iff]; omega) (Ok.gd (by rw [inR_nat]; exact decide_eq_true (by omega)) (Ok.gd (by rw [inR_iff]; omega) ?_))
         refine ih (topF 0 (xsL f.Strips (k + 1)), topF 0 (ysL f.Strips (k + 1))) rfl |> fun q => ?_
         have e : topF 0 (ysL f.Strips (k + 1)) = stp (topF 0 (ysL f.Strips k)) (dY f.Strips k) := by rw [ysL, if_pos h0, topF_snoc]
         rw [e] at q
         exact q
       · have h0 : k = 0 := by have := of_decide_eq_false h0; omega
         have e : ysL f.Strips (k + 1) = ysL f.Strips k := by rw [ysL, if_neg (by omega), List.append_nil]
         have q := ih (topF 0 (xsL f.Strips (k + 1)), topF 0 (ysL f.Strips (k + 1))) rfl
         rw [e] at q
         exact q
   · rintro again c rfl
     exact Ok.cd (fun h => by simp at h) (fun _ => ok_some.2 rfl)
 · rintro o rfl
   dsimp only
   have hx := topF_in (xsL f.Strips f.Strips.length) 0 (by omega) (xsL_sm ok.nr _ (Nat.le_refl _))
   have hy := topF_in (ysL f.Strips f.Strips.length) 0 (by omega) (ysL_sm ok.nr ok.ne _ (Nat.le_refl _))
   have key : ∀ (d size : Int), 0 ≤ d ∧ d ≤ 2097152 → 1 ≤ size ∧ size ≤ 1048576 → Ok (plan_Overlaps_1 n d size s.Width s.Height s.Low s.High s.Across s.Along s.Focal s.Overlap s.Sidelap s.Views f.Height f.Strips ground) fun z => Qx z (Rat.divInt 1 1 - Rat.divInt (d * s.Focal) (size * (f.Height - ground))) 7 := by
    intro d size hd hsz
    obtain ⟨e1, b1, b2⟩ := rise_in oks ok.h hgr hlow hsz
    have p := prod_in (a := d) (b := s.Focal) hd oks.fo
    unfold plan_Overlaps_1
    rw [e1, wrap64_in (n := d * s.Focal) (by omega) (by omega)]
    clear e1
    refine Ok.bd (qOf_ok hn (by omega) (by omega) (by omega) (by omega) (by omega)) fun x hx => Ok.bd (qWhole_ok hn (by omega) (by omega)) fun y hy => Ok.bd (qSub_ok hn (j := 3) (k := 3) (by omega) hy hx.1) fun z hz => ok_some.2 hz
   exact Ok.bd (key (tX f) s.Along hx oks.al) fun x hx => Ok.bd (key (tY f) s.Across hy oks.ac) fun y hy => ok_some.2 ⟨hx, hy, rfl⟩
end Go.L

