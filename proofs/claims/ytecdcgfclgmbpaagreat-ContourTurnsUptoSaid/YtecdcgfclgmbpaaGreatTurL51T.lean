import Derived.Test.YtecdcgfclgmbpaaGreatTurL51w
set_option linter.all false
namespace Go.L
open Go Go.Eng
def lsz (l : ae) : Nat := 1 + (((l.Points.map fun z => csz z).sum + 1) + 0)
theorem zS {α : Type} {f : α -> Nat} : ∀ {l : List α} {x : α}, x ∈ l -> f x <= (l.map f).sum
 | y :: l, x, h => by
  rw [List.map_cons, List.sum_cons]
  rcases List.mem_cons.1 h with rfl | h
  · omega
  · have := zS (f := f) h; omega
def dgt (x : ak) : Int := (x.Num.Groups.length : Int) + (x.Den.Groups.length : Int)
theorem z6 {n : Nat} {x : ak} (h : qsz x <= 1048576) : fC n x = some (dgt x) := by
 unfold qsz isz at h
 rw [zq, zq] at h
 unfold fC dgt
 rw [wrap64_in (by omega) (by omega)]
def By (x : al) : Bool := decide (dgt x.At > 16)
theorem An {x : al} (hr : C3 x.At) (h : By x = false) : B9 x := by
 have := dcF h
 unfold dgt at this
 exact ⟨hr, by omega, by omega⟩
theorem Bv {g : ar} {w h : Nat} (hg : Gd g w h) {l : ae} (hl : l.Points.length <= 80) (hc : ∀ x ∈ l.Points, B9 x) {i j : Int} (hi : 0 <= i /\ i < g.Width) (hj : 0 <= j /\ j < g.Height) :
  Ok (bdO (fB 20000 g l) fun v16 => cdO ((v16.2 : Int) != 0) (some ((0 : Int), v16.2)) (bdO (bm 20000 (EN (g.X0 + (EN (i * g.Step))))) fun v20 => bdO (bm 20000 (EN (g.Y0 + (EN (j * g.Step))))) fun v22 => bdO (fM 20000 v16.1 (an.mk v20 v22)) fun v24 => cdO v24.2 (some (0, 13)) (cdO (((v16.1.length : Int) : Int) == 0) (some (0, 13)) (some (v24.1, 0))))) fun v23 =>
  Ok (bdO (dI 20000 g l) fun v38 => cdO ((v38.2 : Int) != 0) (cdO ((v23.2 : Int) == v38.2) (some ((v23.1 : Int) == 0)) (some false)) (bdO (bb 20000 g (EN ((EN (j * g.Width)) + i))) fun v42 => bdO (cR 20000 v38.1 v42) fun v44 => cdO (!v44.2) (cdO ((v23.2 : Int) == 13) (some ((v23.1 : Int) == 0)) (some false)) (cdO ((v23.2 : Int) == 0) (some ((v23.1 : Int) == v44.1)) (some false)))) fun r => r = true := by
 obtain ⟨R1, R2, e1, e2, hR⟩ := zf hg hl hc
 rw [e2]
 refine Ok.bde e1 ?_
 rcases hR with ⟨a, b⟩ | ⟨a, b, hP⟩
 · refine Ok.cd (fun _ => az.2 ?_) (fun h => absurd (by simpa using h) a)
   refine Ok.bde rfl (Ok.cd (fun _ => Ok.cd (fun _ => az.2 rfl) (fun h => ?_)) (fun h => ?_))
   · rw [b] at h; simp at h
   · rw [b] at h; exact absurd (by simpa using h) a
 · obtain ⟨X, Y, hA⟩ := D7 hP
   have hs := hg.dim.s; have fx := sG.1 hg.dim.x; have fy := sG.1 hg.dim.y
   have hw := hg.w1; have hh := hg.h1
   have hW := hg.W; have hH := hg.H
   obtain ⟨i, rfl⟩ : ∃ m : Nat, i = (m : Int) := ⟨i.toNat, by omega⟩
   obtain ⟨j, rfl⟩ : ∃ m : Nat, j = (m : Int) := ⟨j.toNat, by omega⟩
   have hjw : j * w + i < w * h := by
    have : (j + 1) * w <= h * w := Nat.mul_le_mul_right w (by omega)
    rw [Nat.add_mul, Nat.one_mul] at this
    rw [Nat.mul_comm w h]; omega
   have hwh : w * h <= 64 * 64 := Nat.mul_le_mul hw.2 hh.2
   have ek : EN ((EN ((j : Int) * g.Width)) + (i : Int)) = ((j * w + i : Nat) : Int) := by
    rw [hW, <- Int.natCast_mul, wrap64_in (n := ((j * w : Nat) : Int)) (by omega) (by omega), wrap64_in (n := ((j * w : Nat) : Int) + (i : Int)) (by omega) (by omega), Int.natCast_add]
   have hx : pxG g ((j * w + i : Nat) : Int) = g.X0 + (i : Int) * g.Step := by
    unfold pxG
    rw [hW, AO, Nat.mul_comm j w, Nat.mul_add_mod, Nat.mod_eq_of_lt (by omega)]
   have hy : pyG g ((j * w + i : Nat) : Int) = g.Y0 + (j : Int) * g.Step := by
    unfold pyG
    rw [hW, CP, Nat.mul_comm j w, Nat.mul_add_div (by omega), Nat.div_eq_of_lt (by omega), Nat.add_zero]
   have b1 := qJ (a := (i : Int)) (b := g.Step) (A := 63) (B := 65536) (by omega) (by omega) (by omega) (by omega)
   have b2 := qJ (a := (j : Int)) (b := g.Step) (A := 63) (B := 65536) (by omega) (by omega) (by omega) (by omega)
   rw [a, ek, wrap64_in (n := (i : Int) * g.Step) (by omega) (by omega), wrap64_in (n := (j : Int) * g.Step) (by omega) (by omega), wrap64_in (n := g.X0 + _) (by omega) (by omega), wrap64_in (n := g.Y0 + _) (by omega) (by omega)]
   refine Ok.cd (fun h => by cases h) (fun _ => ?_)
   refine Ok.bd (jQ (by omega) (by omega) (by omega)) fun u hu => Ok.bd (jQ (by omega) (by omega) (by omega)) fun v hv => ?_
   obtain ⟨p, ep, hp1, hp2⟩ := wQ hg (k := ((j * w + i : Nat) : Int)) (by omega) (by rw [hg.m]; omega)
   rw [hx] at hp1; rw [hy] at hp2
   have c1 := CZ hA hl (p := an.mk u v) (hu.mono (by omega)) (hv.mono (by omega))
   have c2 := CU hA hl (p := p) (QL.mono hp1 (by omega)) (QL.mono hp2 (by omega))
   have hlen : R1.1.length = l.Points.length := hA.1
   refine Ok.bde c1 ?_
   have key : ∀ v23 : Int × Int, (∀ r, (match nQ (onW X Y (Rat.divInt (g.X0 + (i : Int) * g.Step) 1) (Rat.divInt (g.Y0 + (j : Int) * g.Step) 1) l.Points.length) (stW X Y (Rat.divInt (g.X0 + (i : Int) * g.Step) 1) (Rat.divInt (g.Y0 + (j : Int) * g.Step) 1) l.Points.length) l.Points.length 0 0 with | none => ((0 : Int), false) | some m => (m, decide ((l.Points.length : Int) > 0))) = r -> Ok (cdO (!r.2) (cdO ((v23.2 : Int) == 13) (some ((v23.1 : Int) == 0)) (some false)) (cdO ((v23.2 : Int) == 0) (some ((v23.1 : Int) == r.1)) (some false))) fun r => r = true) ->
     Ok (bdO (some R2) fun v38 => cdO ((v38.2 : Int) != 0) (cdO ((v23.2 : Int) == v38.2) (some ((v23.1 : Int) == 0)) (some false)) (bdO (bb 20000 g ((j * w + i : Nat) : Int)) fun v42 => bdO (cR 20000 v38.1 v42) fun v44 => cdO (!v44.2) (cdO ((v23.2 : Int) == 13) (some ((v23.1 : Int) == 0)) (some false)) (cdO ((v23.2 : Int) == 0) (some ((v23.1 : Int) == v44.1)) (some false)))) fun r => r = true := fun v23 k => by
    refine Ok.bde rfl ?_
    rw [b]
    exact Ok.cd (fun h => by cases h) (fun _ => Ok.bde ep (Ok.bde c2 (k _ rfl)))
   cases hwn : nQ (onW X Y (Rat.divInt (g.X0 + (i : Int) * g.Step) 1) (Rat.divInt (g.Y0 + (j : Int) * g.Step) 1) l.Points.length) (stW X Y (Rat.divInt (g.X0 + (i : Int) * g.Step) 1) (Rat.divInt (g.Y0 + (j : Int) * g.Step) 1) l.Points.length) l.Points.length 0 0 with
   | none =>
    refine Ok.cd (fun _ => az.2 (key _ fun r hr => ?_)) (fun h => by cases h)
    rw [hwn] at hr; subst hr
    exact Ok.cd (fun _ => Ok.cd (fun _ => az.2 rfl) (fun h => by cases h)) (fun h => by cases h)
   | some m =>
    refine Ok.cd (fun h => by cases h) (fun _ => Ok.cd (fun h0 => az.2 (key _ fun r hr => ?_)) (fun h0 => az.2 (key _ fun r hr => ?_)))
    · rw [hwn] at hr; subst hr
      have h0 : l.Points.length = 0 := by rw [hlen] at h0; simpa using h0
      rw [h0]
      exact Ok.cd (fun _ => Ok.cd (fun _ => az.2 rfl) (fun h => by cases h)) (fun h => by cases h)
    · rw [hwn] at hr; subst hr
      have h0 : 0 < l.Points.length := by
       rw [hlen] at h0
       have : ¬ l.Points.length = 0 := by simpa using h0
       omega
      refine Ok.cd (fun h => ?_) (fun _ => Ok.cd (fun _ => az.2 (by simp)) (fun h => by cases h))
      rw [decide_eq_true (by omega : (l.Points.length : Int) > 0)] at h; cases h
theorem Am (g : ar) (l : ae) (at' : A2 Int) (hd : ∀ x ∈ l.Points, C3 x.At) (hb : lsz l <= 1048576) : dF 20000 g l at' = some true := by
 have hq : ∀ x ∈ l.Points, qsz x.At <= 1048576 := fun x hx => by
  have h1 : csz x <= (l.Points.map csz).sum := zS (f := csz) hx
  have h2 : (l.Points.map fun z => csz z).sum = (l.Points.map csz).sum := rfl
  unfold lsz at hb
  rw [h2] at hb
  have h3 : qsz x.At <= csz x := by unfold csz; omega
  omega
 apply Ok.eq
 unfold dF
 refine Ok.bde Ao (Ok.cd (fun h => by cases h) (fun _ => ?_))
 refine Ok.bde (b := decide ((g.Z.length : Int) <= 40)) rfl (Ok.cd (fun _ => az.2 rfl) (fun _ => ?_))
 refine Ok.cd (fun _ => az.2 rfl) (fun h80 => ?_)
 have h80 : l.Points.length <= 80 := by have := dcF h80; omega
 refine Ok.bde (u9 (p := By) (c := true) (s := l.Points) (by omega) (by omega) ?_ ?_) ?_
 · intro again k hk
   have d1 : decide ((k : Int) < (l.Points.length : Int)) = true := by simpa using hk
   have d2 : decide (k < l.Points.length) = true := by simpa using hk
   have hm : l.Points.getD k default ∈ l.Points := by simp only [List.getD, geT hk, Option.getD_some]; exact List.getElem_mem hk
   rw [d1, bh, d2, lG, z6 (hq _ hm)]
   show cdO (By (l.Points.getD k default)) _ _ = _
   cases By (l.Points.getD k default) <;> rfl
 · intro again
   have d1 : decide ((l.Points.length : Int) < (l.Points.length : Int)) = false := by simp
   rw [d1]; rfl
 cases hany : l.Points.any By with
 | true => exact az.2 rfl
 | false =>
  rw [if_neg (by decide)]
  have hc : ∀ x ∈ l.Points, B9 x := fun x hx => An (hd x hx) (by simpa using (List.any_eq_false.1 hany) x hx)
  obtain ⟨i, j⟩ := at'
  dsimp only
  by_cases hg0 : oW g = 0
  · obtain ⟨w, h, hg⟩ := DJ hg0
    have eT : ∀ {v : Int × Int}, eL 20000 g l i j = some v -> ∀ {Q : Bool -> Prop} {K : Int × Int -> Option Bool}, Ok (K v) Q -> Ok (bdO (eL 20000 g l i j) K) Q := fun e _ _ k => Ok.bde e k
    have un : eL 20000 g l i j = bdO (α := Bool) (cdO (decide (i < 0)) (some true) (cdO (decide (i >= g.Width)) (some true) (cdO (decide (j < 0)) (some true) (some (decide (j >= g.Height)))))) fun x_5 => cdO x_5 (some (0, 2)) (cdO (!l.Closed) (some (0, 11)) (bdO (fB 20000 g l) fun v16 => cdO ((v16.2 : Int) != 0) (some ((0 : Int), v16.2)) (bdO (bm 20000 (EN (g.X0 + (EN (i * g.Step))))) fun v20 => bdO (bm 20000 (EN (g.Y0 + (EN (j * g.Step))))) fun v22 => bdO (fM 20000 v16.1 (an.mk v20 v22)) fun v24 => cdO v24.2 (some (0, 13)) (cdO (((v16.1.length : Int) : Int) == 0) (some (0, 13)) (some (v24.1, 0)))))) := by
     unfold eL
     rw [ym (by omega), hg0]; rfl
    have done2 : ∀ {Q : Prop}, True -> Ok (cdO (((2 : Int)) == 2) (some (((0 : Int)) == 0)) (some false)) (fun r => r = true) := fun _ => Ok.cd (fun _ => az.2 rfl) (fun h => by cases h)
    rw [un]
    cases t1 : decide (i < 0) with
    | true => exact Ok.bde rfl (Ok.bde (lD (by omega) g) (by rw [hg0]; exact Ok.cd (fun _ => Ok.cd (fun _ => Ok.cd (fun _ => az.2 rfl) (fun h => by cases h)) (fun h => by cases h)) (fun h => by cases h)))
    | false =>
     cases t2 : decide (i >= g.Width) with
     | true => exact Ok.bde rfl (Ok.bde (lD (by omega) g) (by rw [hg0]; exact Ok.cd (fun _ => Ok.cd (fun h => by cases h) (fun _ => Ok.cd (fun _ => Ok.cd (fun _ => az.2 rfl) (fun h => by cases h)) (fun h => by cases h))) (fun h => by cases h)))
     | false =>
      cases t3 : decide (j < 0) with
      | true => exact Ok.bde rfl (Ok.bde (lD (by omega) g) (by rw [hg0]; exact Ok.cd (fun _ => Ok.cd (fun h => by cases h) (fun _ => Ok.cd (fun h => by cases h) (fun _ => Ok.cd (fun _ => Ok.cd (fun _ => az.2 rfl) (fun h => by cases h)) (fun h => by cases h)))) (fun h => by cases h)))
      | false =>
       cases t4 : decide (j >= g.Height) with
       | true => exact Ok.bde rfl (Ok.bde (lD (by omega) g) (by rw [hg0]; exact Ok.cd (fun _ => Ok.cd (fun h => by cases h) (fun _ => Ok.cd (fun h => by cases h) (fun _ => Ok.cd (fun h => by cases h) (fun _ => Ok.cd (fun _ => Ok.cd (fun _ => az.2 rfl) (fun h => by cases h)) (fun h => by cases h))))) (fun h => by cases h)))
       | false =>
        have t1 := dcF t1; have t2 := dcF t2; have t3 := dcF t3; have t4 := dcF t4
        cases hcl : l.Closed with
        | false => exact Ok.bde rfl (Ok.bde (lD (by omega) g) (by rw [hg0]; exact Ok.cd (fun _ => Ok.cd (fun h => by cases h) (fun _ => Ok.cd (fun h => by cases h) (fun _ => Ok.cd (fun h => by cases h) (fun _ => Ok.cd (fun h => by cases h) (fun _ => Ok.cd (fun _ => Ok.cd (fun _ => az.2 rfl) (fun h => by cases h)) (fun h => by cases h)))))) (fun h => by cases h)))
        | true =>
         obtain ⟨v23, e23, h23⟩ := Bv hg h80 hc (i := i) (j := j) (by omega) (by omega)
         refine Ok.bde (b := v23) e23 (Ok.bde (lD (by omega) g) ?_)
         rw [hg0]
         exact Ok.cd (fun _ => Ok.cd (fun h => by cases h) (fun _ => Ok.cd (fun h => by cases h) (fun _ => Ok.cd (fun h => by cases h) (fun _ => Ok.cd (fun h => by cases h) (fun _ => Ok.cd (fun h => by cases h) (fun _ => h23)))))) (fun h => by cases h)
  · have e : eL 20000 g l i j = some (0, oW g) := by
     unfold eL
     rw [ym (by omega)]
     show cdO (oW g != 0) _ _ = _
     rw [show (oW g != 0) = true by simpa using hg0]; rfl
    refine Ok.bde e (Ok.bde (lD (by omega) g) ?_)
    refine Ok.cd (fun h => absurd (by simpa using h) hg0) (fun _ => Ok.cd (fun _ => Ok.cd (fun _ => az.2 rfl) (fun h => by simp at h)) (fun h => absurd (by simpa using h) hg0))
end Go.L

