import Derived.Test.YtcjhlgoicppgnaaGreatTriL52i
set_option linter.all false
namespace Go.L
open Go Go.Eng
def CntP (a b c : Rat) (o : Int × Bool × List Int × Bool × List Int) : Prop :=
 ∃ L, Qx (api_Rat.mk (api_Int.mk o.2.1 o.2.2.1) (api_Int.mk o.2.2.2.1 o.2.2.2.2)) L 1 ∧ ((o.1 = 0 ∧ a ≤ 0 ∧ b ≤ 0 ∧ c ≤ 0) ∨ (o.1 = 1 ∧ ((0 < a ∧ b ≤ 0 ∧ c ≤ 0 ∧ L = a) ∨ (0 < b ∧ a ≤ 0 ∧ c ≤ 0 ∧ L = b) ∨ (0 < c ∧ a ≤ 0 ∧ b ≤ 0 ∧ L = c))) ∨
  (o.1 = 2 ∧ ((0 < a ∧ 0 < b ∧ c ≤ 0) ∨ (0 < a ∧ b ≤ 0 ∧ 0 < c) ∨ (a ≤ 0 ∧ 0 < b ∧ 0 < c))) ∨ (o.1 = 3 ∧ 0 < a ∧ 0 < b ∧ 0 < c))
theorem cnt3 {x y z : api_Rat} {a b c : Rat} (hx : Qx x a 1) (hy : Qx y b 1) (hz : Qx z c 1) :
  Ok (loopO (α := Int × Bool × List Int × Bool × List Int × Int) (β := Int × Bool × List Int × Bool × List Int) 5000 (fun again59 (up_42, last_43, last_44, last_45, last_46, x_47) => (
  cdO (decide (x_47 < 3)) (
   gdO (inR x_47 ([x, y, z].length)) (
   bdO (fiducialref02_Sign 5000 (gt [x, y, z] x_47)) fun v63 => (
   cdO (decide (v63 > 0)) (
    again59 (wrapF .i64 (up_42 + 1), (gt [x, y, z] x_47).Num.Negative, (gt [x, y, z] x_47).Num.Groups, (gt [x, y, z] x_47).Den.Negative, (gt [x, y, z] x_47).Den.Groups, wrapF .i64 (x_47 + 1))
   ) (
    again59 (up_42, last_43, last_44, last_45, last_46, wrapF .i64 (x_47 + 1))
   )
   )
   )
  ) (
   some ((up_42, last_43, last_44, last_45, last_46))
  )
 )) (0, x.Num.Negative, x.Num.Groups, x.Den.Negative, x.Den.Groups, 0)) (CntP a b c) := by
 have w1 : wrapF .i64 ((0 : Int) + 1) = 1 := wrap64_in (by omega) (by omega)
 have w2 : wrapF .i64 ((1 : Int) + 1) = 2 := wrap64_in (by omega) (by omega)
 have w3 : wrapF .i64 ((2 : Int) + 1) = 3 := wrap64_in (by omega) (by omega)
 have nl : ∀ {q : Rat}, decide (sgn q.num > 0) = false → q ≤ 0 := fun h => by
  have := fun k => of_decide_eq_false h (sg_gt.2 k)
  grind
 refine ok_step (n := 4999) (Ok.cd (fun _ => Ok.gd rfl (Ok.bde (R.qSign_ok (k := 1) (by omega) (by omega) hx) ?_)) (fun h => by simp at h))
 refine Ok.cd (fun h1 => ?_) (fun h1 => ?_)
 · have h1 := sg_gt.1 (of_decide_eq_true h1)
   rw [w1]
   refine ok_step (n := 4998) (Ok.cd (fun _ => Ok.gd rfl (Ok.bde (R.qSign_ok (k := 1) (by omega) (by omega) hy) ?_)) (fun h => by simp at h))
   refine Ok.cd (fun h2 => ?_) (fun h2 => ?_)
   · have h2 := sg_gt.1 (of_decide_eq_true h2)
     rw [w2]
     refine ok_step (n := 4997) (Ok.cd (fun _ => Ok.gd rfl (Ok.bde (R.qSign_ok (k := 1) (by omega) (by omega) hz) ?_)) (fun h => by simp at h))
     refine Ok.cd (fun h3 => ?_) (fun h3 => ?_)
     · have h3 := sg_gt.1 (of_decide_eq_true h3)
       rw [w3]
       exact ok_step (n := 4996) (Ok.cd (fun h => by simp at h) (fun _ => ok_some.2 ⟨c, hz, .inr (.inr (.inr ⟨rfl, h1, h2, h3⟩))⟩))
     · rw [w3]
       exact ok_step (n := 4996) (Ok.cd (fun h => by simp at h) (fun _ => ok_some.2 ⟨b, hy, .inr (.inr (.inl ⟨rfl, .inl ⟨h1, h2, nl h3⟩⟩))⟩))
   · rw [w2]
     refine ok_step (n := 4997) (Ok.cd (fun _ => Ok.gd rfl (Ok.bde (R.qSign_ok (k := 1) (by omega) (by omega) hz) ?_)) (fun h => by simp at h))
     refine Ok.cd (fun h3 => ?_) (fun h3 => ?_)
     · have h3 := sg_gt.1 (of_decide_eq_true h3)
       rw [w2, w3]
       exact ok_step (n := 4996) (Ok.cd (fun h => by simp at h) (fun _ => ok_some.2 ⟨c, hz, .inr (.inr (.inl ⟨rfl, .inr (.inl ⟨h1, nl h2, h3⟩)⟩))⟩))
     · rw [w3]
       exact ok_step (n := 4996) (Ok.cd (fun h => by simp at h) (fun _ => ok_some.2 ⟨a, hx, .inr (.inl ⟨rfl, .inl ⟨h1, nl h2, nl h3, rfl⟩⟩)⟩))
 · rw [w1]
   refine ok_step (n := 4998) (Ok.cd (fun _ => Ok.gd rfl (Ok.bde (R.qSign_ok (k := 1) (by omega) (by omega) hy) ?_)) (fun h => by simp at h))
   refine Ok.cd (fun h2 => ?_) (fun h2 => ?_)
   · have h2 := sg_gt.1 (of_decide_eq_true h2)
     rw [w1, w2]
     refine ok_step (n := 4997) (Ok.cd (fun _ => Ok.gd rfl (Ok.bde (R.qSign_ok (k := 1) (by omega) (by omega) hz) ?_)) (fun h => by simp at h))
     refine Ok.cd (fun h3 => ?_) (fun h3 => ?_)
     · have h3 := sg_gt.1 (of_decide_eq_true h3)
       rw [w2, w3]
       exact ok_step (n := 4996) (Ok.cd (fun h => by simp at h) (fun _ => ok_some.2 ⟨c, hz, .inr (.inr (.inl ⟨rfl, .inr (.inr ⟨nl h1, h2, h3⟩)⟩))⟩))
     · rw [w3]
       exact ok_step (n := 4996) (Ok.cd (fun h => by simp at h) (fun _ => ok_some.2 ⟨b, hy, .inr (.inl ⟨rfl, .inr (.inl ⟨h2, nl h1, nl h3, rfl⟩)⟩)⟩))
   · rw [w2]
     refine ok_step (n := 4997) (Ok.cd (fun _ => Ok.gd rfl (Ok.bde (R.qSign_ok (k := 1) (by omega) (by omega) hz) ?_)) (fun h => by simp at h))
     refine Ok.cd (fun h3 => ?_) (fun h3 => ?_)
     · have h3 := sg_gt.1 (of_decide_eq_true h3)
       rw [w1, w3]
       exact ok_step (n := 4996) (Ok.cd (fun h => by simp at h) (fun _ => ok_some.2 ⟨c, hz, .inr (.inl ⟨rfl, .inr (.inr ⟨h3, nl h1, nl h2, rfl⟩)⟩)⟩))
     · rw [w3]
       exact ok_step (n := 4996) (Ok.cd (fun h => by simp at h) (fun _ => ok_some.2 ⟨a, hx, .inl ⟨rfl, nl h1, nl h2, nl h3⟩⟩))
theorem same_ok {x y : api_Rat} {a b : Rat} {j k : Nat} (hk : j + k + 1 ≤ 60) (hx : Qx x a j) (hy : Qx y b k) : Ok (fiducialref02_SameRat 5000 x y) fun s => s = true ↔ a = b := by
 unfold fiducialref02_SameRat fiducialref02_Same
 refine Ok.bd (R := fun s => s = true ↔ a = b) ?_ (fun s h => ok_some.2 h)
 refine Ok.bde (R.qValid_ok (k := j) (by omega) (by omega) hx) (Ok.cd (fun _ => Ok.bde (R.qValid_ok (k := k) (by omega) (by omega) hy) (Ok.cd (fun _ => Ok.bde (R.qCompare_ok (by omega) hk hx hy) (ok_some.2 ?_)) (fun h => by cases h))) (fun h => by cases h))
 have hs := sgn_cases (a - b).num
 have hn := Rat.num_eq_zero (q := a - b)
 rw [beq_iff_eq]
 constructor
 · intro h
   have := hn.1 (by omega)
   grind
 · intro h
   have := hn.2 (by grind)
   omega
def RotP (a b c : Rat) (o : Bool × List Int × Bool × List Int × Bool × List Int × Bool × List Int × Bool × List Int × Bool × List Int) : Prop :=
 ∃ p q r P R S, (api_Rat.mk (api_Int.mk o.1 o.2.1) (api_Int.mk o.2.2.1 o.2.2.2.1) = p ∧ api_Rat.mk (api_Int.mk o.2.2.2.2.1 o.2.2.2.2.2.1) (api_Int.mk o.2.2.2.2.2.2.1 o.2.2.2.2.2.2.2.1) = q ∧ api_Rat.mk (api_Int.mk o.2.2.2.2.2.2.2.2.1 o.2.2.2.2.2.2.2.2.2.1) (api_Int.mk o.2.2.2.2.2.2.2.2.2.2.1 o.2.2.2.2.2.2.2.2.2.2.2) = r) ∧
  Qx p P 1 ∧ Qx q R 1 ∧ Qx r S 1 ∧ 0 < P ∧ R ≤ 0 ∧ S ≤ 0 ∧ meanQ P R S = meanQ a b c ∧ ∀ X Y, Sp P R S X Y → Sp a b c X Y
theorem rot3 {x y z l : api_Rat} {a b c L : Rat} (hx : Qx x a 1) (hy : Qx y b 1) (hz : Qx z c 1) (hl : Qx l L 1) (h : (0 < a ∧ b ≤ 0 ∧ c ≤ 0 ∧ L = a) ∨ (0 < b ∧ a ≤ 0 ∧ c ≤ 0 ∧ L = b) ∨ (0 < c ∧ a ≤ 0 ∧ b ≤ 0 ∧ L = c)) :
  Ok (loopO (α := Bool × List Int × Bool × List Int × Bool × List Int × Bool × List Int × Bool × List Int × Bool × List Int) (β := Bool × List Int × Bool × List Int × Bool × List Int × Bool × List Int × Bool × List Int × Bool × List Int) 5000 (fun again105 (a_75, a_76, a_77, a_78, b_79, b_80, b_81, b_82, c_83, c_84, c_85, c_86) => (
          bdO (fiducialref02_SameRat 5000 (api_Rat.mk (api_Int.mk a_75 a_76) (api_Int.mk a_77 a_78)) l) fun v106 => (
          cdO (!v106) (
           again105 (b_79, b_80, b_81, b_82, c_83, c_84, c_85, c_86, a_75, a_76, a_77, a_78)
          ) (
           bdO (fiducialref02_Sign 5000 (api_Rat.mk (api_Int.mk a_75 a_76) (api_Int.mk a_77 a_78))) fun v109 => (
           cdO (decide (v109 ≤ 0)) (
            again105 (b_79, b_80, b_81, b_82, c_83, c_84, c_85, c_86, a_75, a_76, a_77, a_78)
           ) (
            some ((a_75, a_76, a_77, a_78, b_79, b_80, b_81, b_82, c_83, c_84, c_85, c_86))
           )
           )
          )
          )
   )) (x.Num.Negative, x.Num.Groups, x.Den.Negative, x.Den.Groups, y.Num.Negative, y.Num.Groups, y.Den.Negative, y.Den.Groups, z.Num.Negative, z.Num.Groups, z.Den.Negative, z.Den.Groups)) (RotP a b c) := by
 have stop : ∀ {x : api_Rat} {a : Rat} {t e : Option (Bool × List Int × Bool × List Int × Bool × List Int × Bool × List Int × Bool × List Int × Bool × List Int)} {Q : Bool × List Int × Bool × List Int × Bool × List Int × Bool × List Int × Bool × List Int × Bool × List Int → Prop}, Qx x a 1 → L = a → 0 < a → Ok e Q → Ok (bdO (fiducialref02_SameRat 5000 x l) fun v106 => cdO (!v106) t (bdO (fiducialref02_Sign 5000 x) fun v109 => cdO (decide (v109 ≤ 0)) t e)) Q := by
  intro x a t e Q hx e1 e2 k
  refine Ok.bd (same_ok (j := 1) (k := 1) (by omega) hx hl) fun s hs => Ok.cd (fun h => ?_) (fun _ => Ok.bde (R.qSign_ok (k := 1) (by omega) (by omega) hx) (Ok.cd (fun h => ?_) (fun _ => k)))
  · have := hs.2 e1.symm; rw [this] at h; cases h
  · have := sg_le.1 (of_decide_eq_true h); grind
 have turn : ∀ {x : api_Rat} {a : Rat} {t e : Option (Bool × List Int × Bool × List Int × Bool × List Int × Bool × List Int × Bool × List Int × Bool × List Int)} {Q : Bool × List Int × Bool × List Int × Bool × List Int × Bool × List Int × Bool × List Int × Bool × List Int → Prop}, Qx x a 1 → a ≤ 0 → Ok t Q → Ok (bdO (fiducialref02_SameRat 5000 x l) fun v106 => cdO (!v106) t (bdO (fiducialref02_Sign 5000 x) fun v109 => cdO (decide (v109 ≤ 0)) t e)) Q := by
  intro x a t e Q hx e1 k
  refine Ok.bd (same_ok (j := 1) (k := 1) (by omega) hx hl) fun s hs => Ok.cd (fun h => k) (fun _ => Ok.bde (R.qSign_ok (k := 1) (by omega) (by omega) hx) (Ok.cd (fun h => k) (fun h => ?_)))
  exact absurd (sg_le.2 e1) (of_decide_eq_false h)
 rcases h with ⟨h1, h2, h3, h4⟩ | ⟨h1, h2, h3, h4⟩ | ⟨h1, h2, h3, h4⟩
 · refine ok_step (n := 4999) (stop hx h4 h1 (ok_some.2 ⟨x, y, z, a, b, c, ⟨rfl, rfl, rfl⟩, hx, hy, hz, h1, h2, h3, rfl, fun X Y h => h⟩))
 · refine ok_step (n := 4999) (turn hx h2 (ok_step (n := 4998) (stop hy h4 h1 (ok_some.2 ⟨y, z, x, b, c, a, ⟨rfl, rfl, rfl⟩, hy, hz, hx, h1, h3, h2, ?_, fun X Y h => h.rot.rot⟩))))
   unfold meanQ; grind
 · refine ok_step (n := 4999) (turn hx h2 (ok_step (n := 4998) (turn hy h3 (ok_step (n := 4997) (stop hz h4 h1 (ok_some.2 ⟨z, x, y, c, a, b, ⟨rfl, rfl, rfl⟩, hz, hx, hy, h1, h2, h3, ?_, fun X Y h => h.rot⟩))))))
   unfold meanQ; grind
theorem lminus_ok {x y : api_Rat} {a b : Rat} {j k : Nat} (hk : j + k + 1 ≤ 60) (hx : Qx x a j) (hy : Qx y b k) : Ok (fiduciallaw52_minus 5000 x y) fun z => Qx z (a - b) (j + k + 1) := by
 unfold fiduciallaw52_minus
 refine Ok.bd (R.qNeg_ok (k := k) (by omega) (by omega) hy) fun v hv => Ok.bd (R.qAdd_ok (by omega) hk hx hv) fun z hz => ok_some.2 ?_
 rw [Rat.sub_eq_add_neg]; exact hz
theorem int_ok {v : Int} (h0 : -9223372036854775808 ≤ v) (hv : v ≤ 9223372036854775807) : Ok (fiducialref02_Int 5000 v) fun z => Qx z (Rat.divInt v 1) 3 := by
 unfold fiducialref02_Int
 exact Ok.bd (R.qWhole_ok (by omega) h0 hv) fun z hz => ok_some.2 hz
theorem tip_ok {x y z : api_Rat} {p q r : Rat} (hx : Qx x p 1) (hy : Qx y q 1) (hz : Qx z r 1) (h1 : p - q ≠ 0) (h2 : p - r ≠ 0) : Ok (fiduciallaw52_tip 5000 x y z) fun o => Qx o (tipQ p q r) 12 := by
 unfold fiduciallaw52_tip
 refine Ok.bd (R.qMul_ok (j := 1) (k := 1) (by omega) (by omega) hx hx) fun e he => Ok.bd (R.qMul_ok (j := 1) (by omega) (by omega) hx he) fun f hf => ?_
 refine Ok.bd (int_ok (by omega) (by omega)) fun w hw => Ok.bd (lminus_ok (by omega) hx hy) fun a ha => Ok.bd (lminus_ok (by omega) hx hz) fun b hb => ?_
 refine Ok.bd (R.qMul_ok (j := 3) (k := 3) (by omega) (by omega) ha hb) fun c hc => Ok.bd (R.qMul_ok (j := 3) (by omega) (by omega) hw hc) fun d hd => ?_
 rw [whole_3] at hd
 have hne : (3 : Rat) * ((p - q) * (p - r)) ≠ 0 := by
  have : (p - q) * (p - r) ≠ 0 := by grind
  grind
 exact Ok.bd (R.qDivide_ok (by omega) (by omega) hf hd hne) fun o ho => ok_some.2 ho.1
theorem tri2_ok {x y z : api_Rat} {a b c : Rat} (hx : Qx x a 1) (hy : Qx y b 1) (hz : Qx z c 1) (few : (a ≤ 0 ∧ b ≤ 0) ∨ (a ≤ 0 ∧ c ≤ 0) ∨ (b ≤ 0 ∧ c ≤ 0)) : Ok (fiduciallaw52_triangle_2 5000 x y z) fun o => ∃ X Y, Sp a b c X Y ∧ Qx o.1 X 21 ∧ Qx o.2 Y 21 := by
 unfold fiduciallaw52_triangle_2
 refine Ok.bde (R.qValue_ok (k := 1) (by omega) (by omega) hx) (Ok.bde (R.qValue_ok (k := 1) (by omega) (by omega) hy) (Ok.bde (R.qValue_ok (k := 1) (by omega) (by omega) hz) ?_))
 refine Ok.bd (R.qAdd_ok (j := 1) (k := 1) (by omega) (by omega) hy hz) fun s hs => Ok.bd (R.qAdd_ok (j := 1) (by omega) (by omega) hx hs) fun t ht => Ok.bd (int_ok (by omega) (by omega)) fun w hw => ?_
 rw [whole_3] at hw
 refine Ok.bd (R.qDivide_ok (k := 3) (by omega) (by omega) ht hw (by grind)) fun m hm => ?_
 have hm : Qx m.1 (meanQ a b c) 8 := hm.1
 refine Ok.bd (cnt3 hx hy hz) ?_
 rintro ⟨up, l1, l2, l3, l4⟩ ⟨L, hL, h⟩
 dsimp only at hL h ⊢
 rcases h with ⟨h0, h1, h2, h3⟩ | ⟨h0, h⟩ | ⟨h0, h⟩ | ⟨h0, h1, h2, h3⟩
 · subst h0
   refine Ok.cd (fun _ => Ok.bd (int_ok (by omega) (by omega)) fun u hu => ?_) (fun h => by simp at h)
   rw [whole_0] at hu
   refine Ok.bd (lminus_ok (by omega) hu hm) fun v hv => ok_some.2 ⟨_, _, sp_none h1 h2 h3, QL.mono hu (by omega), ?_⟩
   rw [show (0 : Rat) - meanQ a b c = -meanQ a b c by grind] at hv
   exact QL.mono hv (by omega)
 · subst h0
   refine Ok.cd (fun h => by simp at h) (fun _ => Ok.cd (fun _ => ?_) (fun h => by simp at h))
   refine Ok.bd (rot3 hx hy hz hL h) ?_
   rintro ⟨o1, o2, o3, o4, o5, o6, o7, o8, o9, o10, o11, o12⟩ ⟨p, q, r, P, R, S, ⟨e1, e2, e3⟩, hp, hq, hr, k1, k2, k3, em, hSp⟩
   dsimp only at e1 e2 e3 ⊢
   rw [e1, e2, e3]
   refine Ok.bd (tip_ok hp hq hr (by grind) (by grind)) fun u hu => Ok.bd (lminus_ok (by omega) hu hm) fun v hv => ok_some.2 ⟨_, _, hSp _ _ (sp_one k1 k2 k3), QL.mono hu (by omega), ?_⟩
   rw [em]; exact hv
 · exfalso; rcases h with ⟨h1, h2, h3⟩ | ⟨h1, h2, h3⟩ | ⟨h1, h2, h3⟩ <;> rcases few with ⟨f1, f2⟩ | ⟨f1, f2⟩ | ⟨f1, f2⟩ <;> grind
 · exfalso; rcases few with ⟨f1, f2⟩ | ⟨f1, f2⟩ | ⟨f1, f2⟩ <;> grind
theorem ltri_ok {x y z : api_Rat} {a b c : Rat} (hx : Cq x a) (hy : Cq y b) (hz : Cq z c) : Ok (fiduciallaw52_triangle 5000 x y z) fun o => ∃ X Y, Sp a b c X Y ∧ Qx o.1 X 21 ∧ Qx o.2 Y 21 := by
 unfold fiduciallaw52_triangle
 refine Ok.bd hx.l fun x hx => Ok.bd hy.l fun y hy => Ok.bd hz.l fun z hz => ?_
 refine Ok.bd (R.qAdd_ok (j := 1) (k := 1) (by omega) (by omega) hy hz) fun s hs => Ok.bd (R.qAdd_ok (j := 1) (by omega) (by omega) hx hs) fun t ht => Ok.bd (int_ok (by omega) (by omega)) fun w hw => ?_
 rw [whole_3] at hw
 refine Ok.bd (R.qDivide_ok (k := 3) (by omega) (by omega) ht hw (by grind)) fun m hm => ?_
 have hm : Qx m.1 (meanQ a b c) 8 := hm.1
 refine Ok.bd (cnt3 hx hy hz) ?_
 rintro ⟨up, l1, l2, l3, l4⟩ ⟨L, hL, h⟩
 dsimp only at hL h ⊢
 have deep : (up = 2 ∧ ((0 < a ∧ 0 < b ∧ c ≤ 0) ∨ (0 < a ∧ b ≤ 0 ∧ 0 < c) ∨ (a ≤ 0 ∧ 0 < b ∧ 0 < c))) ∨ (up = 3 ∧ 0 < a ∧ 0 < b ∧ 0 < c) → Ok (bdO (fiducialref02_Neg 5000 x) fun v119 => bdO (fiducialref02_Neg 5000 y) fun v121 => bdO (fiducialref02_Neg 5000 z) fun v123 => bdO (fiduciallaw52_triangle_2 5000 v119 v121 v123) fun v125 =>
   cdO ((up : Int) == 3) (bdO (fiducialref02_Int 5000 0) fun v128 => some ((m.1, v128))) (some ((v125.2, v125.1)))) fun o => ∃ X Y, Sp a b c X Y ∧ Qx o.1 X 21 ∧ Qx o.2 Y 21 := by
  intro h
  refine Ok.bd (R.qNeg_ok (k := 1) (by omega) (by omega) hx) fun x' hx' => Ok.bd (R.qNeg_ok (k := 1) (by omega) (by omega) hy) fun y' hy' => Ok.bd (R.qNeg_ok (k := 1) (by omega) (by omega) hz) fun z' hz' => ?_
  refine Ok.bd (tri2_ok hx' hy' hz' ?_) ?_
  · rcases h with ⟨_, h | h | h⟩ | ⟨_, h⟩
    · exact .inl (by grind)
    · exact .inr (.inl (by grind))
    · exact .inr (.inr (by grind))
    · exact .inl (by grind)
  · rintro ⟨o1, o2⟩ ⟨X, Y, hS, k1, k2⟩
    refine Ok.cd (fun h3 => Ok.bd (int_ok (by omega) (by omega)) fun u hu => ?_) (fun h3 => ?_)
    · rw [whole_0] at hu
      have h3 : up = 3 := by simpa using h3
      obtain ⟨_, q1, q2, q3⟩ : up = 3 ∧ 0 < a ∧ 0 < b ∧ 0 < c := h.resolve_left fun h => by omega
      exact ok_some.2 ⟨_, _, sp_all (by grind) (by grind) (by grind), QL.mono hm (by omega), QL.mono hu (by omega)⟩
    · have e : ∀ z : Rat, - -z = z := fun z => by grind
      have := hS.neg
      rw [e, e, e] at this
      exact ok_some.2 ⟨_, _, this, k2, k1⟩
 rcases h with ⟨h0, h1, h2, h3⟩ | ⟨h0, h⟩ | h
 · subst h0
   refine Ok.cd (fun _ => Ok.bd (int_ok (by omega) (by omega)) fun u hu => ?_) (fun h => by simp at h)
   rw [whole_0] at hu
   refine Ok.bd (lminus_ok (by omega) hu hm) fun v hv => ok_some.2 ⟨_, _, sp_none h1 h2 h3, QL.mono hu (by omega), ?_⟩
   rw [show (0 : Rat) - meanQ a b c = -meanQ a b c by grind] at hv
   exact QL.mono hv (by omega)
 · subst h0
   refine Ok.cd (fun h => by simp at h) (fun _ => Ok.cd (fun _ => ?_) (fun h => by simp at h))
   refine Ok.bd (rot3 hx hy hz hL h) ?_
   rintro ⟨o1, o2, o3, o4, o5, o6, o7, o8, o9, o10, o11, o12⟩ ⟨p, q, r, P, R, S, ⟨e1, e2, e3⟩, hp, hq, hr, k1, k2, k3, em, hSp⟩
   dsimp only at e1 e2 e3 ⊢
   rw [e1, e2, e3]
   refine Ok.bd (tip_ok hp hq hr (by grind) (by grind)) fun u hu => Ok.bd (lminus_ok (by omega) hu hm) fun v hv => ok_some.2 ⟨_, _, hSp _ _ (sp_one k1 k2 k3), QL.mono hu (by omega), ?_⟩
   rw [em]; exact hv
 · have h' := deep h
   exact Ok.cd (fun hc => by have : up = 0 := by simpa using hc
                             omega) (fun _ => Ok.cd (fun hc => by have : up = 1 := by simpa using hc
                                                                  omega) (fun _ => h'))
def GrP (x : api_Rat) : Prop := (∀ g ∈ x.Num.Groups, 0 ≤ g) ∧ ∀ g ∈ x.Den.Groups, 0 ≤ g
theorem triangles_v (x y z : api_Rat) (gx : GrP x) (gy : GrP y) (gz : GrP z) : fiduciallaw52_VolumeTriangles 5000 x y z = some true := by
 apply Ok.eq
 unfold fiduciallaw52_VolumeTriangles
 refine Ok.bde known52_v (Ok.cd (fun h => by cases h) (fun _ => ?_))
 refine Ok.bd small_ok fun s1 h1 => Ok.cd (fun _ => ok_some.2 rfl) (fun k1 => Ok.bd small_ok fun s2 h2 => Ok.cd (fun _ => ok_some.2 rfl) (fun k2 => Ok.bd small_ok fun s3 h3 => Ok.cd (fun _ => ok_some.2 rfl) (fun k3 => ?_)))
 obtain ⟨a, ha⟩ := cq_in (h1 (by simpa using k1)) gx
 obtain ⟨b, hb⟩ := cq_in (h2 (by simpa using k2)) gy
 obtain ⟨c, hc⟩ := cq_in (h3 (by simpa using k3)) gz
 refine Ok.bd (tri_ok ha hb hc) ?_
 rintro v ⟨X, Y, hS, v1, v2⟩
 refine Ok.bd (ltri_ok ha hb hc) ?_
 rintro u ⟨X', Y', hS', u1, u2⟩
 obtain ⟨rfl, rfl⟩ := hS.uniq hS'
 refine Ok.bd (tri_ok hc hb ha) ?_
 rintro s ⟨X', Y', hS', s1', s2'⟩
 obtain ⟨rfl, rfl⟩ := hS.uniq hS'.s13
 refine Ok.bd (tri_ok hb hc ha) ?_
 rintro p ⟨X', Y', hS', p1, p2⟩
 obtain ⟨rfl, rfl⟩ := hS.uniq hS'.rot.rot
 refine Ok.bd (neg_ok ha) fun na hna => Ok.bd (neg_ok hb) fun nb hnb => Ok.bd (neg_ok hc) fun nc hnc => ?_
 refine Ok.bd (tri_ok (Cq.of hna) (Cq.of hnb) (Cq.of hnc)) ?_
 rintro m ⟨Y', X', hS', m1, m2⟩
 obtain ⟨rfl, rfl⟩ := hS.neg.uniq hS'
 have hge := hS.nonneg
 have same : ∀ {x y : api_Rat} {q : Rat} {j k : Nat} {e t : Option Bool}, Qx x q j → Qx y q k → j + k + 1 ≤ 60 → Ok t (· = true) → Ok (bdO (fiducialref02_SameRat 5000 x y) fun v => cdO v t e) (· = true) := by
  intro x y q j k e t h1 h2 h3 h4
  exact Ok.bd (same_ok h3 h1 h2) fun s hs => Ok.cd (fun _ => h4) (fun h => by rw [hs.2 rfl] at h; cases h)
 refine same v1 u1 (by omega) (same v2 u2 (by omega) ?_)
 refine Ok.bde (R.qSign_ok (k := 25) (by omega) (by omega) v1) (Ok.cd (fun _ => ?_) (fun h => absurd (sg_ge.2 hge.1) (of_decide_eq_false h)))
 refine Ok.bde (R.qSign_ok (k := 25) (by omega) (by omega) v2) (Ok.cd (fun _ => ?_) (fun h => absurd (sg_ge.2 hge.2) (of_decide_eq_false h)))
 refine same v1 s1' (by omega) (same v2 s2' (by omega) (same v1 p1 (by omega) (same v2 p2 (by omega) (same m1 v2 (by omega) ?_))))
 exact Ok.bd (same_ok (by omega) m2 v1) fun s hs => ok_some.2 (hs.2 rfl)
theorem u32_of {a : Int} (h : (Lit.int .u32 a).wf = true) : 0 ≤ a := by
 simp [Lit.wf, IntKind.min, IntKind.max, IntKind.signed, IntKind.bits] at h
 exact h.1
theorem grP {x : api_Rat} {P Q : Prop} (h : (True ∧ (P ∧ ∀ a ∈ x.Num.Groups, (Lit.int .u32 a).wf = true) ∧ True) ∧ (True ∧ (Q ∧ ∀ a ∈ x.Den.Groups, (Lit.int .u32 a).wf = true) ∧ True) ∧ True) : GrP x := ⟨fun g hg => u32_of (h.1.2.1.2 g hg), fun g hg => u32_of (h.2.1.2.1.2 g hg)⟩
end Go.L

