import Derived.Test.YtecdcgfclgmbpaaGreatSidL51sc
set_option linter.all false
namespace Go.L
open Go Go.Eng
theorem D3 {Z : List Int} {level : Int} {e : K2} (h : gt Z e.e0 ≠ gt Z e.e1) : crE Z level e * ((2 * (gt Z e.e1 - gt Z e.e0) : Int) : Rat) = ((level - 2 * gt Z e.e0 : Int) : Rat) := by
 unfold crE
 have hd : 2 * (gt Z e.e1 - gt Z e.e0) ≠ 0 := by omega
 generalize 2 * (gt Z e.e1 - gt Z e.e0) = D at *
 generalize level - 2 * gt Z e.e0 = A
 rw [<- jP D, <- jP A, Rat.divInt_mul_divInt, Int.mul_comm D 1, Rat.divInt_mul_right hd]
theorem zh {Z : List Int} {level : Int} {e : K2} (ho : level.tmod 2 ≠ 0) (hn : abv Z level e.e0 ≠ abv Z level e.e1) : 0 < crE Z level e /\ crE Z level e < 1 := by
 have hne : gt Z e.e0 ≠ gt Z e.e1 := fun h => hn (by unfold abv; rw [h])
 have hr := D3 (level := level) hne
 have o0 : 2 * gt Z e.e0 ≠ level := fun h => ho (by rw [<- h]; exact Int.mul_tmod_right 2 _)
 have o1 : 2 * gt Z e.e1 ≠ level := fun h => ho (by rw [<- h]; exact Int.mul_tmod_right 2 _)
 unfold abv at hn
 generalize crE Z level e = r at *
 have two : (2 * gt Z e.e0 > level /\ 2 * gt Z e.e1 < level) \/ (2 * gt Z e.e0 < level /\ 2 * gt Z e.e1 > level) := by
  by_cases h0 : 2 * gt Z e.e0 > level <;> by_cases h1 : 2 * gt Z e.e1 > level <;> simp [h0, h1] at hn <;> omega
 have eAD : ((2 * (gt Z e.e1 - gt Z e.e0) : Int) : Rat) = ((level - 2 * gt Z e.e0 : Int) : Rat) + ((2 * gt Z e.e1 - level : Int) : Rat) := by rw [<- Rat.intCast_add]; congr 1; omega
 generalize ((2 * (gt Z e.e1 - gt Z e.e0) : Int) : Rat) = D at *
 rcases two with ⟨h0, h1⟩ | ⟨h0, h1⟩
 · have a := qB (v := level - 2 * gt Z e.e0) (by omega); have b := qB (v := 2 * gt Z e.e1 - level) (by omega)
   generalize ((level - 2 * gt Z e.e0 : Int) : Rat) = A at *
   generalize ((2 * gt Z e.e1 - level : Int) : Rat) = C at *
   have hD : D < 0 := by grind
   constructor
   · apply Classical.byContradiction
     intro k
     have : 0 <= (-r) * (-D) := Rat.mul_nonneg (by grind) (by grind)
     grind
   · apply Classical.byContradiction
     intro k
     have : 0 <= (r - 1) * (-D) := Rat.mul_nonneg (by grind) (by grind)
     grind
 · have a := oN (v := level - 2 * gt Z e.e0) (by omega); have b := oN (v := 2 * gt Z e.e1 - level) (by omega)
   generalize ((level - 2 * gt Z e.e0 : Int) : Rat) = A at *
   generalize ((2 * gt Z e.e1 - level : Int) : Rat) = C at *
   have hD : 0 < D := by grind
   constructor
   · apply Classical.byContradiction
     intro k
     have : 0 <= (-r) * D := Rat.mul_nonneg (by grind) (by grind)
     grind
   · apply Classical.byContradiction
     intro k
     have : 0 <= (r - 1) * D := Rat.mul_nonneg (by grind) (by grind)
     grind
def uX (w : Nat) (Z : List Int) (level : Int) (e : K2) : Rat := ((e.e0.tmod (w : Int) : Int) : Rat) + crE Z level e * ((e.e1.tmod (w : Int) - e.e0.tmod (w : Int) : Int) : Rat)
def uY (w : Nat) (Z : List Int) (level : Int) (e : K2) : Rat := ((e.e0.tdiv (w : Int) : Int) : Rat) + crE Z level e * ((e.e1.tdiv (w : Int) - e.e0.tdiv (w : Int) : Int) : Rat)
theorem AS {w j i : Nat} (hi : i < w) : (cel w j i).tmod (w : Int) = (i : Int) := by
 unfold cel
 rw [Int.tmod_eq_emod_of_nonneg (by omega), <- Int.natCast_emod, Nat.mul_comm j w, Nat.mul_add_mod, Nat.mod_eq_of_lt hi]
theorem A5 {w j i : Nat} (hi : i < w) : (cel w j i).tdiv (w : Int) = (j : Int) := by
 unfold cel
 rw [Int.tdiv_eq_ediv_of_nonneg (by omega), <- Int.natCast_ediv, Nat.mul_comm j w, Nat.mul_add_div (by omega), Nat.div_eq_of_lt hi, Nat.add_zero]
section
variable {w : Nat} {Z : List Int} {level : Int}
theorem Gj {j i j' i' : Nat} (hi : i < w) (hi' : i' < w) : uX w Z level (A2.mk (cel w j i) (cel w j' i')) = ((i : Int) : Rat) + crE Z level (A2.mk (cel w j i) (cel w j' i')) * (((i' : Int) - (i : Int) : Int) : Rat) /\
  uY w Z level (A2.mk (cel w j i) (cel w j' i')) = ((j : Int) : Rat) + crE Z level (A2.mk (cel w j i) (cel w j' i')) * (((j' : Int) - (j : Int) : Int) : Rat) := by
 unfold uX uY
 dsimp only
 rw [AS hi, AS hi', A5 hi, A5 hi']
 exact ⟨rfl, rfl⟩
theorem Ej {a : Int} {r : Rat} (h : 0 < r /\ r < 1) : Bt a ((a : Rat) + r * (((a + 1 : Int) - a : Int) : Rat)) := by
 rw [show ((a + 1 : Int) - a : Int) = 1 by omega, Rat.intCast_one, Rat.mul_one]
 refine ⟨by grind, ?_⟩
 rw [ics]; grind
theorem DO {a : Int} {r : Rat} : (a : Rat) + r * ((a - a : Int) : Rat) = (a : Rat) := by
 rw [Int.sub_self, Rat.intCast_zero, Rat.mul_zero]; grind
theorem Bt.sub {v : Int} {y : Rat} (h : Bt v y) (o : Int) : Bt (v - o) (y - (o : Rat)) := by
 obtain ⟨a, b⟩ := h
 unfold Bt
 rw [show (v - o + 1 : Int) = (v + 1) - o by omega, Rat.intCast_sub, Rat.intCast_sub]
 grind
theorem Cc {j i : Nat} (hi : i + 1 < w) (ho : level.tmod 2 ≠ 0) (hn : abv Z level (cel w j i) ≠ abv Z level (cel w j (i + 1))) : Bt (i : Int) (uX w Z level (A2.mk (cel w j i) (cel w j (i + 1)))) /\ uY w Z level (A2.mk (cel w j i) (cel w j (i + 1))) = ((j : Int) : Rat) := by
 obtain ⟨e1, e2⟩ := Gj (Z := Z) (level := level) (j := j) (j' := j) (show i < w by omega) hi
 rw [e1, e2]
 refine ⟨?_, DO⟩
 have := Ej (a := (i : Int)) (zh (Z := Z) (e := A2.mk (cel w j i) (cel w j (i + 1))) ho hn)
 rw [show (((i + 1 : Nat) : Int)) = (i : Int) + 1 by omega]; exact this
theorem xE {j i i' : Nat} (hi : i < w) (hi' : i' < w) (ho : level.tmod 2 ≠ 0) (hn : abv Z level (cel w j i) ≠ abv Z level (cel w (j + 1) i')) : Bt (j : Int) (uY w Z level (A2.mk (cel w j i) (cel w (j + 1) i'))) := by
 obtain ⟨e1, e2⟩ := Gj (Z := Z) (level := level) (j := j) (j' := j + 1) hi hi'
 rw [e2]
 have := Ej (a := (j : Int)) (zh (Z := Z) (e := A2.mk (cel w j i) (cel w (j + 1) i')) ho hn)
 rw [show (((j + 1 : Nat) : Int)) = (j : Int) + 1 by omega]; exact this
def cO (w : Nat) (Z : List Int) (level : Int) (oi oj : Nat) (q : K2 × K2) : Int := ctr (uX w Z level q.1 - ((oi : Int) : Rat)) (uY w Z level q.1 - ((oj : Int) : Rat)) (uX w Z level q.2 - ((oi : Int) : Rat)) (uY w Z level q.2 - ((oj : Int) : Rat))
def onO (w : Nat) (Z : List Int) (level : Int) (oi oj : Nat) (q : K2 × K2) : Bool := onQ (uX w Z level q.1 - ((oi : Int) : Rat)) (uY w Z level q.1 - ((oj : Int) : Rat)) (uX w Z level q.2 - ((oi : Int) : Rat)) (uY w Z level q.2 - ((oj : Int) : Rat))
def cT (w : Nat) (Z : List Int) (level : Int) (oi oj : Nat) (t : A3 Int) : Int := match seg Z level t with | some q => cO w Z level oi oj q | none => 0
def b2 (b : Bool) : Int := if b = true then 1 else 0
theorem Fz (t : A3 Int) : seg Z level t = zm (stp Z level (stp Z level (stp Z level (0, 0, 0, 0, false) t.e0 t.e1) t.e1 t.e2) t.e2 t.e0) := rfl
theorem vT {a b : Int} (h : a < b) : mn a b = a /\ mx a b = b /\ mn b a = a /\ mx b a = b := by
 unfold mn mx
 rw [if_neg (by omega), if_pos h, if_pos h, if_neg (by omega)]
 exact ⟨rfl, rfl, rfl, rfl⟩
theorem xq {j i : Nat} : cel w j i < cel w j (i + 1) /\ (0 < w -> cel w j i < cel w (j + 1) i) /\ cel w j i < cel w (j + 1) (i + 1) := by
 have a := oC (w := w) (j := j) (i := i); have b := qb (w := w) (j := j) (i := i); have c := oC (w := w) (j := j + 1) (i := i)
 omega
theorem D0 {j i : Nat} : loT (cel w j i) w = A3.mk (cel w j i) (cel w j (i + 1)) (cel w (j + 1) (i + 1)) := by
 unfold loT
 have a := oC (w := w) (j := j) (i := i); have b := qb (w := w) (j := j) (i := i + 1)
 congr 1 <;> omega
theorem Dk {j i : Nat} : upT (cel w j i) w = A3.mk (cel w j i) (cel w (j + 1) (i + 1)) (cel w (j + 1) i) := by
 unfold upT
 have a := qb (w := w) (j := j) (i := i); have b := oC (w := w) (j := j + 1) (i := i)
 congr 1 <;> omega
theorem Ct {j i oi oj : Nat} (hi : i + 1 < w) (ho : level.tmod 2 ≠ 0) : (cT w Z level oi oj (loT (cel w j i) w) = if j = oj /\ oi <= i then b2 (abv Z level (cel w j i)) - b2 (abv Z level (cel w j (i + 1))) else 0) /\ ∀ q, seg Z level (loT (cel w j i) w) = some q -> onO w Z level oi oj q = false := by
 obtain ⟨l1, -, l3⟩ := xq (w := w) (j := j) (i := i)
 have l2 : cel w j (i + 1) < cel w (j + 1) (i + 1) := (xq (w := w) (j := j) (i := i + 1)).2.1 (by omega)
 have m1 := vT l1; have m2 := vT l2; have m3 := vT l3
 have E1 := Cc (Z := Z) (level := level) (j := j) hi ho
 have E2 := xE (Z := Z) (level := level) (j := j) (i := i + 1) (i' := i + 1) hi hi ho
 have E3 := xE (Z := Z) (level := level) (j := j) (i := i) (i' := i + 1) (by omega) hi ho
 have cnd : ((j : Int) - (oj : Int) = 0 /\ 0 <= (i : Int) - (oi : Int)) ↔ (j = oj /\ oi <= i) := by omega
 unfold cT
 rw [D0, Fz]
 dsimp only
 generalize cel w j i = A at *
 generalize cel w j (i + 1) = B at *
 generalize cel w (j + 1) (i + 1) = C at *
 unfold cO onO
 have up1 : ∀ {q1 q2 : K2}, q1 = A2.mk A B -> abv Z level A ≠ abv Z level B -> Bt (j : Int) (uY w Z level q2) -> onQ (uX w Z level q1 - ((oi : Int) : Rat)) (uY w Z level q1 - ((oj : Int) : Rat)) (uX w Z level q2 - ((oi : Int) : Rat)) (uY w Z level q2 - ((oj : Int) : Rat)) = false /\
   ctr (uX w Z level q1 - ((oi : Int) : Rat)) (uY w Z level q1 - ((oj : Int) : Rat)) (uX w Z level q2 - ((oi : Int) : Rat)) (uY w Z level q2 - ((oj : Int) : Rat)) = if j = oj /\ oi <= i then 1 else 0 := by
  rintro q1 q2 rfl hn hb
  obtain ⟨e1, e2⟩ := E1 hn
  have := DG (v := (j : Int) - (oj : Int)) (ay := uY w Z level (A2.mk A B) - ((oj : Int) : Rat)) (bx := uX w Z level q2 - ((oi : Int) : Rat)) (by rw [e2, Rat.intCast_sub]) (e1.sub oi) (hb.sub oj)
  simp only [cnd] at this; exact this
 have dn1 : ∀ {q1 q2 : K2}, q2 = A2.mk A B -> abv Z level A ≠ abv Z level B -> Bt (j : Int) (uY w Z level q1) -> onQ (uX w Z level q1 - ((oi : Int) : Rat)) (uY w Z level q1 - ((oj : Int) : Rat)) (uX w Z level q2 - ((oi : Int) : Rat)) (uY w Z level q2 - ((oj : Int) : Rat)) = false /\
   ctr (uX w Z level q1 - ((oi : Int) : Rat)) (uY w Z level q1 - ((oj : Int) : Rat)) (uX w Z level q2 - ((oi : Int) : Rat)) (uY w Z level q2 - ((oj : Int) : Rat)) = if j = oj /\ oi <= i then -1 else 0 := by
  rintro q1 q2 rfl hn hb
  obtain ⟨e1, e2⟩ := E1 hn
  have := Dq (v := (j : Int) - (oj : Int)) (by' := uY w Z level (A2.mk A B) - ((oj : Int) : Rat)) (ax := uX w Z level q1 - ((oi : Int) : Rat)) (by rw [e2, Rat.intCast_sub]) (e1.sub oi) (hb.sub oj)
  simp only [cnd] at this; exact this
 have mm1 : ∀ {q1 q2 : K2}, Bt (j : Int) (uY w Z level q1) -> Bt (j : Int) (uY w Z level q2) -> _ := fun {q1 q2} h1 h2 => Aw (ax := uX w Z level q1 - ((oi : Int) : Rat)) (bx := uX w Z level q2 - ((oi : Int) : Rat)) (h1.sub oj) (h2.sub oj)
 cases hA : abv Z level A <;> cases hB : abv Z level B <;> cases hC : abv Z level C <;> rw [hA, hB] at E1 up1 dn1 <;> rw [hB, hC] at E2 <;> rw [hA, hC] at E3 <;> simp only [stp, zm, hA, hB, hC, m1, m2, m3, Bool.not_false, Bool.not_true, Bool.and_true, Bool.and_false, Bool.true_and, Bool.false_and, if_true, if_false, Bool.false_eq_true, b2, Option.some.injEq, reduceCtorEq, false_implies, implies_true, and_true, forall_eq', Int.sub_self, ite_self]
 · exact ⟨(mm1 (E3 (by simp)) (E2 (by simp))).2, (mm1 (E3 (by simp)) (E2 (by simp))).1⟩
 · exact ⟨(dn1 rfl (by simp) (E2 (by simp))).2, (dn1 rfl (by simp) (E2 (by simp))).1⟩
 · exact ⟨(dn1 rfl (by simp) (E3 (by simp))).2, (dn1 rfl (by simp) (E3 (by simp))).1⟩
 · exact ⟨(up1 rfl (by simp) (E3 (by simp))).2, (up1 rfl (by simp) (E3 (by simp))).1⟩
 · exact ⟨(up1 rfl (by simp) (E2 (by simp))).2, (up1 rfl (by simp) (E2 (by simp))).1⟩
 · exact ⟨(mm1 (E2 (by simp)) (E3 (by simp))).2, (mm1 (E2 (by simp)) (E3 (by simp))).1⟩
theorem B0 {j i oi oj : Nat} (hi : i + 1 < w) (ho : level.tmod 2 ≠ 0) : cT w Z level oi oj (upT (cel w j i) w) = 0 /\ ∀ q, seg Z level (upT (cel w j i) w) = some q -> onO w Z level oi oj q = false := by
 obtain ⟨-, l2', l3⟩ := xq (w := w) (j := j) (i := i)
 have l2 : cel w j i < cel w (j + 1) i := l2' (by omega)
 have l1 : cel w (j + 1) i < cel w (j + 1) (i + 1) := (xq (w := w) (j := j + 1) (i := i)).1
 have m1 := vT l1; have m2 := vT l2; have m3 := vT l3
 have E1 := Cc (Z := Z) (level := level) (j := j + 1) hi ho
 have E2 := xE (w := w) (Z := Z) (level := level) (j := j) (i := i) (i' := i) (by omega) (by omega) ho
 have E3 := xE (Z := Z) (level := level) (j := j) (i := i) (i' := i + 1) (by omega) hi ho
 unfold cT
 rw [Dk, Fz]
 dsimp only
 generalize cel w j i = A at *
 generalize cel w (j + 1) i = B at *
 generalize cel w (j + 1) (i + 1) = C at *
 unfold cO onO
 have ec : ((((j + 1 : Nat) : Int)) : Rat) - ((oj : Int) : Rat) = (((j : Int) - (oj : Int) + 1 : Int) : Rat) := by rw [<- Rat.intCast_sub]; congr 1; omega
 have up1 : ∀ {q1 q2 : K2}, q1 = A2.mk B C -> abv Z level B ≠ abv Z level C -> Bt (j : Int) (uY w Z level q2) -> onQ (uX w Z level q1 - ((oi : Int) : Rat)) (uY w Z level q1 - ((oj : Int) : Rat)) (uX w Z level q2 - ((oi : Int) : Rat)) (uY w Z level q2 - ((oj : Int) : Rat)) = false /\
   ctr (uX w Z level q1 - ((oi : Int) : Rat)) (uY w Z level q1 - ((oj : Int) : Rat)) (uX w Z level q2 - ((oi : Int) : Rat)) (uY w Z level q2 - ((oj : Int) : Rat)) = 0 := by
  rintro q1 q2 rfl hn hb
  obtain ⟨e1, e2⟩ := E1 hn
  exact D8 (v := (j : Int) - (oj : Int)) (ay := uY w Z level (A2.mk B C) - ((oj : Int) : Rat)) (bx := uX w Z level q2 - ((oi : Int) : Rat)) (by rw [e2, ec]) (e1.sub oi) (hb.sub oj)
 have dn1 : ∀ {q1 q2 : K2}, q2 = A2.mk B C -> abv Z level B ≠ abv Z level C -> Bt (j : Int) (uY w Z level q1) -> onQ (uX w Z level q1 - ((oi : Int) : Rat)) (uY w Z level q1 - ((oj : Int) : Rat)) (uX w Z level q2 - ((oi : Int) : Rat)) (uY w Z level q2 - ((oj : Int) : Rat)) = false /\
   ctr (uX w Z level q1 - ((oi : Int) : Rat)) (uY w Z level q1 - ((oj : Int) : Rat)) (uX w Z level q2 - ((oi : Int) : Rat)) (uY w Z level q2 - ((oj : Int) : Rat)) = 0 := by
  rintro q1 q2 rfl hn hb
  obtain ⟨e1, e2⟩ := E1 hn
  exact D7 (v := (j : Int) - (oj : Int)) (by' := uY w Z level (A2.mk B C) - ((oj : Int) : Rat)) (ax := uX w Z level q1 - ((oi : Int) : Rat)) (by rw [e2, ec]) (e1.sub oi) (hb.sub oj)
 have mm1 : ∀ {q1 q2 : K2}, Bt (j : Int) (uY w Z level q1) -> Bt (j : Int) (uY w Z level q2) -> _ := fun {q1 q2} h1 h2 => Aw (ax := uX w Z level q1 - ((oi : Int) : Rat)) (bx := uX w Z level q2 - ((oi : Int) : Rat)) (h1.sub oj) (h2.sub oj)
 cases hA : abv Z level A <;> cases hB : abv Z level B <;> cases hC : abv Z level C <;> rw [hB, hC] at E1 up1 dn1 <;> rw [hA, hB] at E2 <;> rw [hA, hC] at E3 <;> simp only [stp, zm, hA, hB, hC, m1, m2, m3, Bool.not_false, Bool.not_true, Bool.and_true, Bool.and_false, Bool.true_and, Bool.false_and, if_true, if_false, Bool.false_eq_true, Option.some.injEq, reduceCtorEq, false_implies, implies_true, and_true, forall_eq']
 all_goals first
  | exact ⟨(mm1 (E3 (by simp)) (E2 (by simp))).2, (mm1 (E3 (by simp)) (E2 (by simp))).1⟩
  | exact ⟨(mm1 (E2 (by simp)) (E3 (by simp))).2, (mm1 (E2 (by simp)) (E3 (by simp))).1⟩
  | exact ⟨(up1 rfl (by simp) (E3 (by simp))).2, (up1 rfl (by simp) (E3 (by simp))).1⟩
  | exact ⟨(up1 rfl (by simp) (E2 (by simp))).2, (up1 rfl (by simp) (E2 (by simp))).1⟩
  | exact ⟨(dn1 rfl (by simp) (E3 (by simp))).2, (dn1 rfl (by simp) (E3 (by simp))).1⟩
  | exact ⟨(dn1 rfl (by simp) (E2 (by simp))).2, (dn1 rfl (by simp) (E2 (by simp))).1⟩
theorem wz {α : Type} {f : α -> Int} : ∀ {l : List α}, (∀ x ∈ l, f x = 0) -> fM (l.map f) = 0
 | [], _ => rfl
 | x :: l, h => by
  show f x + fM (l.map f) = 0
  rw [h x (by simp), wz fun y hy => h y (List.mem_cons_of_mem _ hy)]; rfl
theorem oQ {α β : Type} {f : α -> List β} {F : β -> Int} : ∀ l : List α, fM ((l.flatMap f).map F) = fM (l.map fun x => fM ((f x).map F))
 | [] => rfl
 | x :: l => by rw [List.flatMap_cons, List.map_append, nG, oQ l]; rfl
def Ec {β : Type} (F : β -> Int) : Option β -> Int | some q => F q | none => 0
theorem mG {α β : Type} {f : α -> Option β} {F : β -> Int} : ∀ l : List α, fM ((l.filterMap f).map F) = fM (l.map fun x => Ec F (f x))
 | [] => rfl
 | x :: l => by
  rw [List.filterMap_cons]
  cases h : f x with
  | none =>
   show fM ((l.filterMap f).map F) = Ec F (f x) + fM (l.map _)
   rw [h, mG l]; show _ = 0 + _; omega
  | some q =>
   show F q + fM ((l.filterMap f).map F) = Ec F (f x) + fM (l.map _)
   rw [h, mG l]; rfl
theorem yo {f : Nat -> Int} {o : Nat} : ∀ m : Nat, fM ((List.range m).map fun i => if o <= i then f i - f (i + 1) else 0) = if o <= m then f o - f m else 0
 | 0 => by
  show 0 = _
  split
  · rename_i h; have : o = 0 := by omega
    subst this; omega
  · rfl
 | m + 1 => by
  rw [List.range_succ, List.map_append, nG, yo m]
  show _ + ((if o <= m then f m - f (m + 1) else 0) + 0) = _
  by_cases h : o <= m
  · rw [if_pos h, if_pos h, if_pos (by omega)]; omega
  · rw [if_neg h, if_neg h]
    by_cases h2 : o = m + 1
    · subst h2; rw [if_pos (Nat.le_refl _)]; omega
    · rw [if_neg (by omega)]; rfl
theorem yz {v : Int} {o : Nat} : ∀ m : Nat, fM ((List.range m).map fun j => if j = o then v else 0) = if o < m then v else 0
 | 0 => rfl
 | m + 1 => by
  rw [List.range_succ, List.map_append, nG, yz m]
  show _ + ((if m = o then v else 0) + 0) = _
  by_cases h : m = o
  · subst h; rw [if_neg (Nat.lt_irrefl _), if_pos rfl, if_pos (Nat.lt_succ_self _)]; omega
  · rw [if_neg h]
    by_cases h2 : o < m
    · rw [if_pos h2, if_pos (by omega)]; omega
    · rw [if_neg h2, if_neg (by omega)]; rfl
theorem Cd {g : al} {h : Nat} (hL : Lw g w h level) (hg : Gd g w h) (ho : level.tmod 2 ≠ 0) {oi oj : Nat} (hi : oi < w) (hj : oj < h) : fM ((nZ g w h level).map (cO w g.Z level oi oj)) = b2 (abv g.Z level (cel w oj oi)) /\ ∀ q ∈ nZ g w h level, onO w g.Z level oi oj q = false := by
 have hw := hg.w1; have hh := hg.h1
 constructor
 · unfold nZ
   have eT : (fun t => Ec (cO w g.Z level oi oj) (seg g.Z level t)) = cT w g.Z level oi oj := by funext t; unfold cT; cases seg g.Z level t <;> rfl
   rw [mG, hL.all hg, eT]
   unfold kz y9
   rw [oQ]
   have row : ∀ j ∈ List.range (h - 1), fM (((List.range (w - 1)).flatMap (gg (w : Int) j)).map (cT w g.Z level oi oj)) = if j = oj then b2 (abv g.Z level (cel w j oi)) - b2 (abv g.Z level (cel w j (w - 1))) else 0 := by
    intro j hj
    rw [List.mem_range] at hj
    rw [oQ]
    have cell : ∀ i ∈ List.range (w - 1), fM ((gg (w : Int) j i).map (cT w g.Z level oi oj)) = if j = oj then (if oi <= i then b2 (abv g.Z level (cel w j i)) - b2 (abv g.Z level (cel w j (i + 1))) else 0) else 0 := by
     intro i hi
     rw [List.mem_range] at hi
     rw [vj hw.2 (by omega) (by omega)]
     show cT w g.Z level oi oj (loT (cel w j i) w) + (cT w g.Z level oi oj (upT (cel w j i) w) + 0) = _
     rw [(Ct (by omega) ho).1, (B0 (by omega) ho).1]
     by_cases h1 : j = oj
     · rw [if_pos h1]
       by_cases h2 : oi <= i
       · rw [if_pos ⟨h1, h2⟩, if_pos h2]; omega
       · rw [if_neg fun q => h2 q.2, if_neg h2]; rfl
     · rw [if_neg fun q => h1 q.1, if_neg h1]; rfl
    rw [List.map_congr_left cell]
    by_cases h1 : j = oj
    · simp only [if_pos h1]
      rw [yo (f := fun i => b2 (abv g.Z level (cel w j i))), if_pos (by omega)]
    · simp only [if_neg h1]
      exact wz fun _ _ => rfl
   rw [List.map_congr_left row]
   have e : (fun j : Nat => if j = oj then b2 (abv g.Z level (cel w j oi)) - b2 (abv g.Z level (cel w j (w - 1))) else 0) = fun j => if j = oj then b2 (abv g.Z level (cel w oj oi)) - b2 (abv g.Z level (cel w oj (w - 1))) else 0 := by
    funext j
    by_cases h : j = oj
    · rw [h]
    · rw [if_neg h, if_neg h]
   rw [e, yz, hL.low oj (w - 1) hj (by omega) (by omega)]
   by_cases h1 : oj < h - 1
   · rw [if_pos h1]; show _ - 0 = _; omega
   · rw [if_neg h1, hL.low oj oi hj hi (by omega)]; rfl
 · intro q hq
   unfold nZ at hq
   rw [hL.all hg] at hq
   obtain ⟨t, ht, e⟩ := List.mem_filterMap.1 hq
   obtain ⟨j, i, hj', hi', ht⟩ := (tz hw hh).1 ht
   rcases ht with rfl | rfl
   · exact (Ct (by omega) ho).2 q e
   · exact (B0 (by omega) ho).2 q e
end
end Go.L

