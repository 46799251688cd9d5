import Derived.Test.YtecdcgfclgmbpaaGreatSumL51z
import Derived.Test.YtecdcgfclgmbpaaGreatSumL51b
set_option linter.all false
namespace Go.L
open Go Go.Eng
theorem E4 : (4294967296 : Int) * (5600000000 * 1000000000000000 ^ 56) < pB 97 := dcT (by kernel_rfl)
theorem Bd.Ex {nn dn : Bool} {ng dg : List Int} {r : Rat} {i j : Nat} {s : Int} (hs : 0 <= s /\ s <= 4294967296) (h : Bd r i) (hi : i <= 56) (q : QL nn ng dn dg (Rat.divInt s 2 * r) j) : QL nn ng dn dg (Rat.divInt s 2 * r) 97 := by
 obtain ⟨p, d, h1, h2, h3, h4, h5⟩ := h
 have hp := yF hi
 have hb := E4
 have h0 : (0 : Int) < 1000000000000000 ^ i := Int.pow_pos (by omega)
 have hm : (i : Int) * 100000000 * 1000000000000000 ^ i <= 5600000000 * 1000000000000000 ^ 56 := Int.mul_le_mul (by omega) hp (by omega) (by omega)
 generalize (i : Int) * 100000000 * 1000000000000000 ^ i = M at *
 generalize (1000000000000000 : Int) ^ i = P at *
 generalize (1000000000000000 : Int) ^ 56 = R at *
 have k1 : s * p <= s * (5600000000 * R) := mlT (by omega) hs.1
 have k2 : s * (-(5600000000 * R)) <= s * p := mlT (by omega) hs.1
 have k3 : s * (5600000000 * R) <= 4294967296 * (5600000000 * R) := mrT hs.2 (by omega)
 rw [Int.mul_neg] at k2
 exact QL.tight q (p := s * p) (q := 2 * d) (by rw [h1, Rat.divInt_mul_divInt]) (by omega) (by omega) (by omega) (by omega)
theorem yD {p : A3 Int -> Rat} {l : List (A3 Int)} {k : Nat} (h : k < l.length) : nL ((l.take (k + 1)).map p) = nL ((l.take k).map p) + p (l.getD k default) := by
 rw [List.take_add_one, geT h]
 have : l.getD k default = l[k] := by simp [List.getD, geT h]
 rw [this]
 exact za _ _
theorem CY {g : al} {w h : Nat} : (nc g w h).length <= 2 * ((w - 1) * (h - 1)) := by
 have := List.length_filter_le (pc g.Z) (pS g.Width (w - 1) (h - 1))
 rw [xw, Nat.mul_assoc] at this
 exact this
def Sr (g : al) (w h : Nat) (level : Int) (k : Nat) (c : T4 × T4) : Prop :=
 (R.Qx (rs c.1) (arQ g * nL (((nc g w h).take k).map (ptG shQ (fun _ _ _ => 1) g.Z level))) 97 /\ Bd (nL (((nc g w h).take k).map (ptG shQ (fun _ _ _ => 1) g.Z level))) k) /\
 R.Qx (rs c.2) (arQ g * nL (((nc g w h).take k).map (ptG ju fH g.Z level))) 97 /\ Bd (nL (((nc g w h).take k).map (ptG ju fH g.Z level))) k
theorem Dj {g : al} {level : Int} {w h : Nat} (hg : Gd g w h) (hb : g.Z.any qw = false) (h40 : g.Z.length <= 40) (hl : okL level) :
  Ok (gC 20000 g level) fun r => R.Qx r.1 (AG shQ (fun _ _ _ => 1) g w h level) 97 /\ R.Qx r.2 (AG ju fH g w h level) 97 := by
 have hq := xI hg
 have h56 := Bq hg.w1.1 hg.h1.1 (by rw [<- hg.m]; exact h40)
 have hlen : (nc g w h).length <= 56 := Nat.le_trans CY h56
 unfold gC
 refine Ok.bd (R.iE (by omega) (by omega) (by omega)) fun u hu => Ok.bd (R.iE (by omega) (by omega) (by omega)) fun v hv => ?_
 rw [s9] at hu hv
 rw [wrap64_in (n := g.Step * g.Step) (by omega) (by omega)]
 refine Ok.bd (R.pU (by omega) (by omega) (by omega) (by omega) (by omega) (by omega)) ?_
 rintro s ⟨hs, -⟩
 change R.Qx s.1 (arQ g) 3 at hs
 refine Ok.bde (CT (by omega) hg) ?_
 have z0 : arQ g * nL [] = 0 := by show arQ g * 0 = 0; grind
 refine Ok.bd (R := fun o => Sr g w h level (nc g w h).length ((o.1, o.2.1, o.2.2.1, o.2.2.2.1), o.2.2.2.2)) ?_ ?_
 · refine rA (γ := T4 × T4) (len := (nc g w h).length) (fun c x => (c.1.1, c.1.2.1, c.1.2.2.1, c.1.2.2.2, c.2.1, c.2.2.1, c.2.2.2.1, c.2.2.2.2, x)) (Sr g w h level) (by omega) (by omega) (c0 := (qd u, qd v)) ?_ ?_ ?_
   · refine ⟨⟨?_, x6⟩, ?_, x6⟩
     · show R.Qx (rs (qd u)) (arQ g * nL []) 97
       rw [z0]; exact QL.mono hu (by omega)
     · show R.Qx (rs (qd v)) (arQ g * nL []) 97
       rw [z0]; exact QL.mono hv (by omega)
   · rintro again k c hk ⟨⟨qa, ba⟩, qv, bv⟩ ih
     have ea := yD (p := ptG shQ (fun _ _ _ => 1) g.Z level) hk
     have ev := yD (p := ptG ju fH g.Z level) hk
     have hm : gt (nc g w h) (k : Int) ∈ nc g w h := by
      rw [qQ]; simp only [List.getD, geT hk, Option.getD_some]; exact List.getElem_mem hk
     rw [<- qQ] at ea ev
     obtain ⟨⟨i0, i1, i2⟩, y0, y1, y2⟩ := zin hb hg hm
     refine Ok.cd (fun _ => ?_) (fun h => by have := dcF h; omega)
     refine Ok.gd (by rw [bM]; exact decide_eq_true hk) (Ok.gd i0 (Ok.gd i1 (Ok.gd i2 ?_)))
     have n0 := uw y0 hl; have n1 := uw y1 hl; have n2 := uw y2 hl
     have wr : ∀ {z : Int}, okZ z -> Fc ((Fc (2 * z)) - level) = 2 * z - level := by
      rintro z ⟨a, b⟩
      have := hl.2
      rw [wrap64_in (n := 2 * z) (by omega) (by omega), wrap64_in (by omega) (by omega)]
     rw [wr y0, wr y1, wr y2]
     refine Ok.bd (DO n0 n1 n2) ?_
     rintro r ⟨r1, r2⟩
     refine Ok.bd (R.mw (by omega) (by omega) hs r1) fun a1 h1 => Ok.bd (R.lC (x := rs c.1) (by omega) (by omega) qa h1) fun a2 h2 => ?_
     refine Ok.bd (R.mw (by omega) (by omega) hs r2) fun a3 h3 => Ok.bd (R.lC (x := rs c.2) (by omega) (by omega) qv h3) fun a4 h4 => ?_
     have b1 := ba.add (BS B7 n0 n1 n2)
     have b2 := bv.add (BS zP n0 n1 n2)
     refine ih (qd a2, qd a4) ?_
     unfold Sr
     rw [ea, ev]
     have e : ∀ x y : Rat, arQ g * x + arQ g * y = arQ g * (x + y) := fun x y => by grind
     rw [e] at h2 h4
     exact ⟨⟨b1.Ex hq (by omega) h2, b1⟩, b2.Ex hq (by omega) h4, b2⟩
   · rintro again c hP
     exact Ok.cd (fun h => by have := dcT h; omega) (fun _ => aw.2 hP)
 · rintro o ⟨⟨qa, -⟩, qv, -⟩
   rw [List.take_length] at qa qv
   refine aw.2 ⟨?_, ?_⟩
   · unfold AG; rw [Rat.mul_comm]; exact qa
   · unfold AG; rw [Rat.mul_comm]; exact qv
def u6 (c level : Int) : Int := if c ≠ 0 then c else if level.tmod 2 = 0 then 1 else if level < -2097153 then 2 else if 2097153 < level then 2 else 0
theorem EJ {α : Type} {c level : Int} : (cdO ((c : Int) != 0) (some c) (cdO (((level.tmod 2) : Int) == 0) (some 1) (cdO (decide (level < (-2097153))) (some 2) (cdO (decide (level > 2097153)) (some 2) (some 0)))) : Option Int) = some (u6 c level) := by
 unfold u6
 by_cases h0 : c = 0
 · subst h0
   by_cases h1 : level.tmod 2 = 0
   · rw [h1]; rfl
   · rw [show (level.tmod 2 == 0) = false by simpa using h1, if_neg (by simp), if_neg h1]
     by_cases h2 : level < -2097153
     · rw [decide_eq_true h2, if_pos h2]; rfl
     · rw [decide_eq_false h2, if_neg h2]
       by_cases h3 : level > 2097153
       · rw [decide_eq_true h3, if_pos h3]; rfl
       · rw [decide_eq_false h3, if_neg h3]; rfl
 · rw [show (c != 0) = true by simpa using h0, if_pos h0]; rfl
theorem xT (g : al) (level : Int) : dF 20000 g level = some (u6 (lI g) level) := by
 unfold dF
 rw [By (by omega)]
 exact EJ (α := Int)
theorem xd (g : al) (level : Int) : fj 20000 g level = some (u6 (lI g) level) := by
 unfold fj
 rw [A4 (by omega)]
 exact EJ (α := Int)
theorem Bn {g : al} {level : Int} (h : u6 (lI g) level = 0) : lI g = 0 /\ okL level := by
 unfold u6 at h
 split at h
 · omega
 · rename_i h0
   split at h
   · omega
   · rename_i h1
     split at h
     · omega
     · split at h
       · omega
       · exact ⟨by omega, h1, by omega, by omega⟩
theorem Bv (g : al) (level : Int) : dQ 20000 g level = some true := by
 apply Ok.eq
 unfold dQ
 refine Ok.bde AF (Ok.cd (fun h => by cases h) (fun _ => ?_))
 refine Ok.bde (b := decide ((g.Z.length : Int) <= 40)) rfl (Ok.cd (fun _ => aw.2 rfl) (fun h4 => ?_))
 have h40 : g.Z.length <= 40 := by
  have : (g.Z.length : Int) <= 40 := by simpa using h4
  omega
 by_cases h0 : u6 (lI g) level = 0
 · obtain ⟨hg0, hl⟩ := Bn h0
   obtain ⟨w, h, hg⟩ := Et hg0
   obtain ⟨-, -, hb⟩ := Af hg0
   obtain ⟨a, ea, ha⟩ := BV hg hb h40 hl
   obtain ⟨v, ev, hv⟩ := AX hg hb h40 hl
   have e1 : gr 20000 g level = some (a, 0) := by unfold gr; rw [xT, h0, ea]; rfl
   have e2 : gK 20000 g level = some (v, 0) := by unfold gK; rw [xT, h0, ev]; rfl
   refine Ok.bde e1 (Ok.bde e2 (Ok.bde (xd g level) ?_))
   rw [h0]
   refine Ok.cd (fun h => by cases h) (fun _ => Ok.bd (Dj hg hb h40 hl) ?_)
   rintro r ⟨r1, r2⟩
   refine Ok.cd (fun _ => Ok.cd (fun _ => ?_) (fun h => by cases h)) (fun h => by cases h)
   refine Ok.bde (R.yX (by omega) (by omega) ha r1) (Ok.cd (fun _ => ?_) (fun h => by cases h))
   exact Ok.bde (R.yX (by omega) (by omega) hv r2) (aw.2 rfl)
 · have nz : (u6 (lI g) level != 0) = true := by simpa using h0
   have e1 : gr 20000 g level = some (ag.mk (ah.mk false []) (ah.mk false []), u6 (lI g) level) := by
    unfold gr; rw [xT]; show cdO (u6 (lI g) level != 0) _ _ = _; rw [nz]; rfl
   have e2 : gK 20000 g level = some (ag.mk (ah.mk false []) (ah.mk false []), u6 (lI g) level) := by
    unfold gK; rw [xT]; show cdO (u6 (lI g) level != 0) _ _ = _; rw [nz]; rfl
   refine Ok.bde e1 (Ok.bde e2 (Ok.bde (xd g level) ?_))
   refine Ok.cd (fun _ => Ok.cd (fun _ => Ok.cd (fun _ => ?_) (fun h => by simp at h)) (fun h => by simp at h)) (fun h => absurd (by simpa using h) h0)
   exact Ok.bde (b := true) rfl (Ok.cd (fun _ => Ok.bde (b := true) rfl (aw.2 rfl)) (fun h => by cases h))
end Go.L

