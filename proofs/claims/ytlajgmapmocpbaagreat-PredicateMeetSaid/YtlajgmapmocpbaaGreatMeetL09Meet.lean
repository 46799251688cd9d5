/- Layer 9, P9.5: the common point. -/
import Derived.Test.YtlajgmapmocpbaaGreatMeetL09re
import Derived.Test.YtlajgmapmocpbaaGreatMeetL02p
import Derived.Test.YtlajgmapmocpbaaGreatMeetL02r
set_option linter.unusedVariables false
set_option linter.unusedSimpArgs false
namespace Go.L
open Go Go.Eng

def firstP (a b c d : api_Pix) (la lb lc : Bool) : api_Pix := bif la then a else bif lb then b else bif lc then c else d
theorem addE_pre (l : List api_Pix) (p : api_Pix) (x : Bool) : ∃ t, addE l p x = l ++ t := by
  unfold addE; split
  · exact ⟨_, rfl⟩
  · exact ⟨[], by simp⟩
theorem addE_off (l : List api_Pix) (p : api_Pix) : addE l p false = l := rfl
theorem addE_on (p : api_Pix) : addE [] p true = [p] := rfl
theorem ends_first (a b c d : api_Pix) (la lb lc ld : Bool) (h : endsL a b c d la lb lc ld ≠ []) : gt (endsL a b c d la lb lc ld) 0 = firstP a b c d la lb lc := by
  unfold endsL at h ⊢
  have keep : ∀ (p : api_Pix) (t : List api_Pix) (q : api_Pix) (x : Bool), ∃ t', addE (p :: t) q x = p :: t' := by
    intro p t q x; obtain ⟨t', e⟩ := addE_pre (p :: t) q x; exact ⟨t ++ t', by rw [e]; rfl⟩
  cases la with
  | true =>
    rw [addE_on]
    obtain ⟨t1, e1⟩ := keep a [] b lb; rw [e1]
    obtain ⟨t2, e2⟩ := keep a t1 c lc; rw [e2]
    obtain ⟨t3, e3⟩ := keep a t2 d ld; rw [e3]
    rfl
  | false =>
    rw [addE_off] at h ⊢
    cases lb with
    | true =>
      rw [addE_on]
      obtain ⟨t2, e2⟩ := keep b [] c lc; rw [e2]
      obtain ⟨t3, e3⟩ := keep b t2 d ld; rw [e3]
      rfl
    | false =>
      rw [addE_off] at h ⊢
      cases lc with
      | true =>
        rw [addE_on]
        obtain ⟨t3, e3⟩ := keep c [] d ld; rw [e3]
        rfl
      | false =>
        rw [addE_off] at h ⊢
        cases ld with
        | true => rfl
        | false => exact absurd rfl h
theorem in_coord {p : api_Pix} (h : In p) : (-9223372036854775808 ≤ p.X ∧ p.X ≤ 9223372036854775807) ∧ (-9223372036854775808 ≤ p.Y ∧ p.Y ≤ 9223372036854775807) := by have := In.iff.1 h; omega
def pq (p : api_Pix) (z : api_Place) (k : Nat) : Prop := Qx z.X (Rat.divInt p.X 1) k ∧ Qx z.Y (Rat.divInt p.Y 1) k
theorem place_ok {n : Nat} (hn : 5000 ≤ n) {p : api_Pix} (hp : In p) : Ok (bdO (fraction_Whole n p.X) fun v33 => bdO (fraction_Whole n p.Y) fun v35 => some ((api_Place.mk v33 v35, (0 : Int)))) fun z => pq p z.1 3 ∧ z.2 = 0 := by
  have h := in_coord hp
  exact Ok.bd (qWhole_ok hn h.1.1 h.1.2) fun x hx => Ok.bd (qWhole_ok hn h.2.1 h.2.2) fun y hy => ok_some.2 ⟨⟨hx, hy⟩, rfl⟩
theorem loop_s {α β : Type} (n : Nat) (f : (α → Option β) → α → Option β) (a : α) : loopO (n + 1) f a = f (loopO n f) a := rfl
theorem touch_ok {n : Nat} (hn : 5000 ≤ n) {a b c d : api_Pix} (hb : ([a, b, c, d] : List api_Pix).any badP = false) (hr : relP a b c d = 1) : Ok (predicate_Meet n a b c d) fun z => pq (firstP a b c d (onB c d a) (onB c d b) (onB a b c)) z.1 3 ∧ z.2 = 0 := by
  obtain ⟨ia, ib, ic, id_⟩ := in4 hb
  unfold predicate_Meet
  rw [relate_in (by omega) hb, hr]
  refine Ok.bde rfl (Ok.cd (fun h => absurd h (by decide)) fun _ => Ok.cd (fun h => absurd h (by decide)) fun _ => Ok.cd (fun h => absurd h (by decide)) fun _ => Ok.cd (fun _ => ?_) fun h => absurd h (by decide))
  obtain ⟨m, rfl⟩ : ∃ m, n = m + 3 := ⟨n - 3, by omega⟩
  unfold firstP
  refine Ok.bd (R := fun o => match o with | .inl _ => onB c d a = false ∧ onB c d b = false | .inr z => pq (bif onB c d a then a else b) z.1 3 ∧ z.2 = 0 ∧ (onB c d a = false → onB c d b = true)) ?_ ?_
  · have w1 : wrapF .i64 (0 + 1) = 1 := rfl
    have w2 : wrapF .i64 (1 + 1) = 2 := rfl
    rw [loop_s]

    refine Ok.cd (fun _ => ?_) (fun h => absurd h (by decide))
    refine Ok.gd rfl ?_
    refine Ok.bde (on_v ic id_ ia) ?_
    refine Ok.cd (fun (h : onB c d a = true) => ?_) (fun (h : onB c d a = false) => ?_)
    · rw [h]
      refine Ok.bd (qWhole_ok hn (in_coord ia).1.1 (in_coord ia).1.2) fun x hx => Ok.bd (qWhole_ok hn (in_coord ia).2.1 (in_coord ia).2.2) fun y hy => ok_some.2 ⟨⟨hx, hy⟩, rfl, fun h => by cases h⟩
    · rw [w1, loop_s]

      refine Ok.cd (fun _ => ?_) (fun h => absurd h (by decide))
      refine Ok.gd rfl ?_
      refine Ok.bde (on_v ic id_ ib) ?_
      refine Ok.cd (fun (h2 : onB c d b = true) => ?_) (fun (h2 : onB c d b = false) => ?_)
      · rw [h]
        refine Ok.bd (qWhole_ok hn (in_coord ib).1.1 (in_coord ib).1.2) fun x hx => Ok.bd (qWhole_ok hn (in_coord ib).2.1 (in_coord ib).2.2) fun y hy => ok_some.2 ⟨⟨hx, hy⟩, rfl, fun _ => h2⟩
      · rw [w2, loop_s]

        exact Ok.cd (fun h => absurd h (by decide)) fun _ => ok_some.2 ⟨h, h2⟩
  · rintro (_ | z) h
    · obtain ⟨h1, h2⟩ := h
      rw [h1, h2]
      refine Ok.bde (on_v ia ib ic) ?_
      refine Ok.cd (fun h => ?_) (fun h => ?_)
      · have : onB a b c = false := by simpa using h
        rw [this]; exact place_ok hn id_
      · have : onB a b c = true := by simpa using h
        rw [this]; exact place_ok hn ic
    · obtain ⟨h1, h2, h3⟩ := h
      refine ok_some.2 ⟨?_, h2⟩
      cases ha : onB c d a with
      | true => rw [ha] at h1; exact h1
      | false => rw [ha] at h1; rw [h3 ha]; exact h1
def mV (p q S D : Int) : Rat := Rat.divInt p 1 + Rat.divInt S D * Rat.divInt (q - p) 1
theorem meet1_ok {n : Nat} (hn : 5000 ≤ n) {p q : Int} {t : api_Rat} {r : Rat} (ht : Qx t r 3) (hp : -1048576 ≤ p ∧ p ≤ 1048576) (hq : -1048576 ≤ q ∧ q ≤ 1048576) : Ok (predicate_Meet_1 n p q t.Num.Negative t.Num.Groups t.Den.Negative t.Den.Groups) fun z => Qx z (Rat.divInt p 1 + r * Rat.divInt (q - p) 1) 10 := by
  unfold predicate_Meet_1
  refine Ok.bd (qWhole_ok hn (by omega) (by omega)) fun x hx => ?_
  rw [wrap64_in (n := q - p) (by omega) (by omega)]
  refine Ok.bd (qWhole_ok hn (by omega) (by omega)) fun y hy => ?_
  refine Ok.bd (qMul_ok hn (j := 3) (k := 3) (by omega) (x := api_Rat.mk (api_Int.mk t.Num.Negative t.Num.Groups) (api_Int.mk t.Den.Negative t.Den.Groups)) ht hy) fun u hu => ?_
  exact Ok.bd (qAdd_ok hn (j := 3) (k := 6) (by omega) hx hu) fun z hz => ok_some.2 hz
theorem cross_ok {n : Nat} (hn : 5000 ≤ n) {a b c d : api_Pix} (hb : ([a, b, c, d] : List api_Pix).any badP = false) (hr : relP a b c d = 2) (hD : crossZ c d a - crossZ c d b ≠ 0) :
    Ok (predicate_Meet n a b c d) fun z => Qx z.1.X (mV a.X b.X (crossZ c d a) (crossZ c d a - crossZ c d b)) 10 ∧ Qx z.1.Y (mV a.Y b.Y (crossZ c d a) (crossZ c d a - crossZ c d b)) 10 ∧ z.2 = 0 := by
  obtain ⟨ia, ib, ic, id_⟩ := in4 hb
  unfold predicate_Meet
  rw [relate_in (by omega) hb, hr]
  refine Ok.bde rfl (Ok.cd (fun h => absurd h (by decide)) fun _ => Ok.cd (fun h => absurd h (by decide)) fun _ => Ok.cd (fun h => absurd h (by decide)) fun _ => Ok.cd (fun h => absurd h (by decide)) fun _ => ?_)
  have b1 := cross_bound ic id_ ia; have b2 := cross_bound ic id_ ib
  have e1 : -8796093022208 ≤ crossZ c d a ∧ crossZ c d a ≤ 8796093022208 := by unfold crossZ; omega
  have e2 : -8796093022208 ≤ crossZ c d b ∧ crossZ c d b ≤ 8796093022208 := by unfold crossZ; omega
  refine Ok.bde (cross_v ic id_ ia) (Ok.bde (cross_v ic id_ ib) ?_)
  rw [wrap64_in (n := crossZ c d a - crossZ c d b) (by omega) (by omega)]
  have ha := In.iff.1 ia; have hbb := In.iff.1 ib
  refine Ok.bd (qOf_ok hn (by omega) (by omega) (by omega) (by omega) hD) fun t ht => ?_
  exact Ok.bd (meet1_ok hn ht.1 ha.1 hbb.1) fun x hx => Ok.bd (meet1_ok hn ht.1 ha.2 hbb.2) fun y hy => ok_some.2 ⟨hx, hy, rfl⟩
theorem rcross_v {n : Nat} {a b c d : api_Pix} (ia : In a) (ib : In b) (ic : In c) (id_ : In d) : fiducialref09_cross n a b c d = some ((b.X - a.X) * (d.Y - c.Y) - (b.Y - a.Y) * (d.X - c.X)) := by
  unfold fiducialref09_cross
  have ha := In.iff.1 ia; have hb := In.iff.1 ib; have hc := In.iff.1 ic; have hd := In.iff.1 id_
  have m1 := mul_bound (a := b.X - a.X) (b := d.Y - c.Y) (A := 2097152) (B := 2097152) (by omega) (by omega) (by omega) (by omega)
  have m2 := mul_bound (a := b.Y - a.Y) (b := d.X - c.X) (A := 2097152) (B := 2097152) (by omega) (by omega) (by omega) (by omega)
  rw [wrap64_in (n := b.X - a.X) (by omega) (by omega), wrap64_in (n := d.Y - c.Y) (by omega) (by omega), wrap64_in (n := b.Y - a.Y) (by omega) (by omega), wrap64_in (n := d.X - c.X) (by omega) (by omega), wrap64_in (n := (b.X - a.X) * (d.Y - c.Y)) (by omega) (by omega), wrap64_in (n := (b.Y - a.Y) * (d.X - c.X)) (by omega) (by omega), wrap64_in (n := (b.X - a.X) * (d.Y - c.Y) - (b.Y - a.Y) * (d.X - c.X)) (by omega) (by omega)]
theorem at_okR {n : Nat} (hn : 5000 ≤ n) {a b : api_Pix} {t : api_Rat} {r : Rat} (ht : Qx t r 3) (ia : In a) (ib : In b) : Ok (fiducialref09_At n a b t) fun z => Qx z.X (Rat.divInt a.X 1 + r * Rat.divInt (b.X - a.X) 1) 10 ∧ Qx z.Y (Rat.divInt a.Y 1 + r * Rat.divInt (b.Y - a.Y) 1) 10 := by
  unfold fiducialref09_At
  have ha := In.iff.1 ia; have hb := In.iff.1 ib
  rw [wrap64_in (n := b.X - a.X) (by omega) (by omega), wrap64_in (n := b.Y - a.Y) (by omega) (by omega)]
  refine Ok.bd (R.qWhole_ok hn (by omega) (by omega)) fun x hx => Ok.bd (R.qWhole_ok hn (by omega) (by omega)) fun y hy => ?_
  refine Ok.bd (R.qMul_ok hn (j := 3) (k := 3) (by omega) ht hy) fun u hu => Ok.bd (R.qAdd_ok hn (j := 3) (k := 6) (by omega) hx hu) fun v hv => ?_
  refine Ok.bd (R.qWhole_ok hn (by omega) (by omega)) fun x' hx' => Ok.bd (R.qWhole_ok hn (by omega) (by omega)) fun y' hy' => ?_
  refine Ok.bd (R.qMul_ok hn (j := 3) (k := 3) (by omega) ht hy') fun u' hu' => Ok.bd (R.qAdd_ok hn (j := 3) (k := 6) (by omega) hx' hu') fun v' hv' => ok_some.2 ⟨hv, hv'⟩
theorem rmeet_touch {n : Nat} (hn : 5000 ≤ n) {a b c d : api_Pix} (hb : ([a, b, c, d] : List api_Pix).any badP = false) (hl : endsL a b c d (onB c d a) (onB c d b) (onB a b c) (onB a b d) ≠ []) : Ok (fiducialref09_Meet n a b c d) fun z => pq (firstP a b c d (onB c d a) (onB c d b) (onB a b c)) z 3 := by
  obtain ⟨ia, ib, ic, id_⟩ := in4 hb
  unfold fiducialref09_Meet
  rw [rends_v (by omega), betw_in ic id_ ia, betw_in ic id_ ib, betw_in ia ib ic, betw_in ia ib id_]
  have hp := List.length_pos_iff.2 hl
  have hf : In (firstP a b c d (onB c d a) (onB c d b) (onB a b c)) := by
    unfold firstP
    cases onB c d a
    · cases onB c d b
      · cases onB a b c
        · exact id_
        · exact ic
      · exact ib
    · exact ia
  have h := in_coord hf
  show Ok (cdO _ _ _) _
  refine Ok.cd (fun _ => ?_) (fun h => absurd (of_decide_eq_false h) (by omega))
  refine Ok.gd (by rw [inR_iff]; omega) ?_
  rw [ends_first _ _ _ _ _ _ _ _ hl]
  exact Ok.bd (R.qWhole_ok hn h.1.1 h.1.2) fun x hx => Ok.bd (R.qWhole_ok hn h.2.1 h.2.2) fun y hy => ok_some.2 ⟨hx, hy⟩
theorem rmeet_cross {n : Nat} (hn : 5000 ≤ n) {a b c d : api_Pix} (hb : ([a, b, c, d] : List api_Pix).any badP = false) (hl : endsL a b c d (onB c d a) (onB c d b) (onB a b c) (onB a b d) = []) (hD : crossZ c d a - crossZ c d b ≠ 0) :
    Ok (fiducialref09_Meet n a b c d) fun z => Qx z.X (mV a.X b.X (crossZ c d a) (crossZ c d a - crossZ c d b)) 10 ∧ Qx z.Y (mV a.Y b.Y (crossZ c d a) (crossZ c d a - crossZ c d b)) 10 := by
  obtain ⟨ia, ib, ic, id_⟩ := in4 hb
  unfold fiducialref09_Meet
  rw [rends_v (by omega), betw_in ic id_ ia, betw_in ic id_ ib, betw_in ia ib ic, betw_in ia ib id_, hl]
  refine Ok.bde rfl (Ok.cd (fun h => absurd h (by decide)) fun _ => ?_)
  have s1 : (c.X - a.X) * (d.Y - c.Y) - (c.Y - a.Y) * (d.X - c.X) = crossZ c d a := by unfold crossZ; grind
  have s2 : (b.X - a.X) * (d.Y - c.Y) - (b.Y - a.Y) * (d.X - c.X) = crossZ c d a - crossZ c d b := by unfold crossZ; grind
  refine Ok.bde (rcross_v ia ic ic id_) (Ok.bde (rcross_v ia ib ic id_) ?_)
  rw [s1, s2]
  have b1 := cross_bound ic id_ ia; have b2 := cross_bound ic id_ ib
  have e1 : -8796093022208 ≤ crossZ c d a ∧ crossZ c d a ≤ 8796093022208 := by unfold crossZ; omega
  have e2 : -8796093022208 ≤ crossZ c d b ∧ crossZ c d b ≤ 8796093022208 := by unfold crossZ; omega
  refine Ok.bd (R.qOf_ok hn (by omega) (by omega) (by omega) (by omega) hD) fun t ht => ?_
  exact Ok.bd (at_okR hn ht.1 ia ib) fun z hz => ok_some.2 hz
theorem meet_fin {n : Nat} (hn : 5000 ≤ n) {z : api_Place × Int} {w : api_Place} {r s : Rat} (h1 : Qx z.1.X r 10) (h2 : Qx z.1.Y s 10) (h3 : z.2 = 0) (h4 : Qx w.X r 10) (h5 : Qx w.Y s 10) :
    cdO ((z.2 : Int) == 0) (bdO (fiducialref02_Same n z.1.X w.X) fun v34 => cdO v34 (bdO (fiducialref02_Same n z.1.Y w.Y) fun v37 => some v37) (some false)) (some false) = some true := by
  rw [h3, R.qSame_ok hn (j := 10) (k := 10) (by omega) h1 h4, R.qSame_ok hn (j := 10) (k := 10) (by omega) h2 h5]; rfl
theorem meet_law (l : A4 api_Pix) : fiduciallaw09_PredicateMeet 5000 l = some true := by
  apply Ok.eq
  unfold fiduciallaw09_PredicateMeet
  refine Ok.bde known09_v ?_
  show Ok (bdO (predicate_Meet 5000 l.e0 l.e1 l.e2 l.e3) _) _
  cases hb : ([l.e0, l.e1, l.e2, l.e3] : List api_Pix).any badP with
  | true =>
    have e : predicate_Meet 5000 l.e0 l.e1 l.e2 l.e3 = some ((api_Place.mk (api_Rat.mk (api_Int.mk false []) (api_Int.mk false [])) (api_Rat.mk (api_Int.mk false []) (api_Int.mk false [])), 2)) := by
      unfold predicate_Meet; rw [relate_out (by omega) hb]; rfl
    refine Ok.bde e (Ok.bde (all_v (by simp) (by simp)) ?_)
    rw [hb]
    exact ok_some.2 rfl
  | false =>
    have hR : relP l.e0 l.e1 l.e2 l.e3 = 0 ∨ relP l.e0 l.e1 l.e2 l.e3 = 1 ∨ relP l.e0 l.e1 l.e2 l.e3 = 2 ∨ relP l.e0 l.e1 l.e2 l.e3 = 3 := by
      unfold relP relZ; split
      · split
        · split
          · exact .inr (.inr (.inl rfl))
          · exact .inl rfl
        · exact .inl rfl
      · split
        · exact .inr (.inl rfl)
        · exact .inr (.inr (.inr rfl))
    have hall : fiducialref09_All 5000 [l.e0, l.e1, l.e2, l.e3] = some true := by rw [all_v (by simp) (by simp), hb]; rfl
    have hrel := rrelate_in (n := 5000) (by omega) hb
    rcases hR with hR | hR | hR | hR
    · have e : predicate_Meet 5000 l.e0 l.e1 l.e2 l.e3 = some ((api_Place.mk (api_Rat.mk (api_Int.mk false []) (api_Int.mk false [])) (api_Rat.mk (api_Int.mk false []) (api_Int.mk false [])), 6)) := by
        unfold predicate_Meet; rw [relate_in (by omega) hb, hR]; rfl
      rw [hR] at hrel
      refine Ok.bde e (Ok.bde hall (Ok.bde hrel ?_))
      exact ok_some.2 rfl
    · rw [hR] at hrel
      have hl : endsL l.e0 l.e1 l.e2 l.e3 (onB l.e2 l.e3 l.e0) (onB l.e2 l.e3 l.e1) (onB l.e0 l.e1 l.e2) (onB l.e0 l.e1 l.e3) ≠ [] := by
        intro h
        unfold relP relZ at hR
        rw [h] at hR
        simp only [List.length_nil] at hR
        split at hR
        · split at hR
          · split at hR <;> omega
          · omega
        · rename_i h0; exact h0 rfl
      refine Ok.bd (touch_ok (by omega) hb hR) fun z hz => Ok.bde hall (Ok.bde hrel ?_)
      show Ok (bdO (fiducialref09_Meet 5000 l.e0 l.e1 l.e2 l.e3) _) _
      refine Ok.bd (rmeet_touch (by omega) hb hl) fun w hw => ?_
      exact ⟨_, meet_fin (by omega) (hz.1.1.mono (by omega)) (hz.1.2.mono (by omega)) hz.2 (hw.1.mono (by omega)) (hw.2.mono (by omega)), rfl⟩
    · rw [hR] at hrel
      have hx : (endsL l.e0 l.e1 l.e2 l.e3 (onB l.e2 l.e3 l.e0) (onB l.e2 l.e3 l.e1) (onB l.e0 l.e1 l.e2) (onB l.e0 l.e1 l.e3)).length = 0 ∧ sgn (crossZ l.e2 l.e3 l.e0) * sgn (crossZ l.e2 l.e3 l.e1) < 0 := by
        unfold relP relZ at hR
        split at hR
        · rename_i h0
          split at hR
          · split at hR
            · rename_i h1; exact ⟨by omega, h1⟩
            · omega
          · omega
        · split at hR <;> omega
      have hl := List.length_eq_zero_iff.1 hx.1
      have hD : crossZ l.e2 l.e3 l.e0 - crossZ l.e2 l.e3 l.e1 ≠ 0 := by
        intro h
        have e : crossZ l.e2 l.e3 l.e1 = crossZ l.e2 l.e3 l.e0 := by omega
        have h2 := hx.2
        rw [e] at h2
        have h3 : 0 ≤ sgn (crossZ l.e2 l.e3 l.e0) * sgn (crossZ l.e2 l.e3 l.e0) := by
          rcases sgn_cases (crossZ l.e2 l.e3 l.e0) with ⟨_, h⟩ | ⟨_, h⟩ | ⟨_, h⟩ <;> rw [h] <;> decide
        omega
      refine Ok.bd (cross_ok (by omega) hb hR hD) fun z hz => Ok.bde hall (Ok.bde hrel ?_)
      show Ok (bdO (fiducialref09_Meet 5000 l.e0 l.e1 l.e2 l.e3) _) _
      refine Ok.bd (rmeet_cross (by omega) hb hl hD) fun w hw => ?_
      exact ⟨_, meet_fin (by omega) hz.1 hz.2.1 hz.2.2 hw.1 hw.2, rfl⟩
    · have e : predicate_Meet 5000 l.e0 l.e1 l.e2 l.e3 = some ((api_Place.mk (api_Rat.mk (api_Int.mk false []) (api_Int.mk false [])) (api_Rat.mk (api_Int.mk false []) (api_Int.mk false [])), 11)) := by
        unfold predicate_Meet; rw [relate_in (by omega) hb, hR]; rfl
      rw [hR] at hrel
      refine Ok.bde e (Ok.bde hall (Ok.bde hrel ?_))
      exact ok_some.2 rfl
end Go.L
