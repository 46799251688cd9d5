import Derived.Test.YtiicieaabeamoaaGreatPl2ghceojll
import Derived.Test.YtiicieaabeamoaaGreatScSflnjlndc
import Derived.Test.YtiicieaabeamoaaGreatSc11jbkheolh
import Derived.Test.YtiicieaabeamoaaGreatVerLkp
import Derived.Test.YtiicieaabeamoaaGreatVerLD
import Derived.KernelRfl
import Derived.Test.YtiicieaabeamoaaGreatVerLkp
import Derived.Test.YtiicieaabeamoaaGreatVerL02s
import Derived.Test.YtiicieaabeamoaaGreatVerLkp
import Derived.Test.YtiicieaabeamoaaGreatSc10eodkmihc
set_option linter.all false
namespace Go.L
open Go Go.Eng
section
variable {γ : Type} {κ : γ → Int}
abbrev ltK (κ : γ → Int) : γ → γ → Bool := fun x y => decide (κ x < κ y)
theorem insC_congr {lt lt' : γ → γ → Bool} {x : γ} : ∀ {l : List γ}, (∀ y, y ∈ l → lt y x = lt' y x) → insC lt x l = insC lt' x l
 | [], _ => rfl
 | y :: l, h => by
  unfold insC
  rw [h y (by simp), insC_congr (l := l) fun z hz => h z (List.mem_cons_of_mem _ hz)]
theorem mem_insC {lt : γ → γ → Bool} {x z : γ} : ∀ {l : List γ}, z ∈ insC lt x l ↔ z = x ∨ z ∈ l
 | [] => by simp [insC]
 | y :: l => by
  unfold insC
  split
  · rw [List.mem_cons, mem_insC (l := l), List.mem_cons]
    constructor
    · rintro (h | h | h)
      · exact .inr (.inl h)
      · exact .inl h
      · exact .inr (.inr h)
    · rintro (h | h | h)
      · exact .inr (.inl h)
      · exact .inl h
      · exact .inr (.inr h)
  · rw [List.mem_cons]
theorem mem_isrtC {lt : γ → γ → Bool} {z : γ} : ∀ {l : List γ}, z ∈ isrtC lt l ↔ z ∈ l
 | [] => Iff.rfl
 | x :: l => by unfold isrtC; rw [mem_insC, mem_isrtC (l := l), List.mem_cons]
theorem isrtC_congr {lt lt' : γ → γ → Bool} : ∀ {l : List γ}, (∀ x y, x ∈ l → y ∈ l → lt x y = lt' x y) → isrtC lt l = isrtC lt' l
 | [], _ => rfl
 | x :: l, h => by
  unfold isrtC
  rw [isrtC_congr (l := l) fun y z hy hz => h y z (List.mem_cons_of_mem _ hy) (List.mem_cons_of_mem _ hz)]
  exact insC_congr fun y hy => h y x (List.mem_cons_of_mem _ (mem_isrtC.1 hy)) (by simp)
theorem sortC_key [DecidableEq γ] {cmp : γ → γ → Option Int} {l : List γ} (hs : ∀ x y, x ∈ l → y ∈ l → ∃ c, cmp x y = some c ∧ (c < 0 ↔ κ x < κ y)) (inj : ∀ x y, x ∈ l → y ∈ l → κ x = κ y → x = y) : sortC cmp l = some (isrtC (ltK κ) l) := by
 have hc : ∀ x y, x ∈ l → y ∈ l → (cfO cmp x y < 0 ↔ κ x < κ y) := fun x y hx hy => by
  obtain ⟨c, h1, h2⟩ := hs x y hx hy
  unfold cfO; rw [h1]; exact h2
 have ok : sortOk cmp l = true := by
  unfold sortOk
  rw [List.all_eq_true]
  intro x hx
  rw [Bool.and_eq_true, List.all_eq_true]
  refine ⟨decide_eq_true (by rw [hc x x hx hx]; omega), fun y hy => ?_⟩
  rw [Bool.and_eq_true]
  refine ⟨by obtain ⟨c, h1, _⟩ := hs x y hx hy; rw [h1]; rfl, ?_⟩
  rw [Bool.and_eq_true, List.all_eq_true]
  refine ⟨decide_eq_true ?_, fun z hz => ?_⟩
  · rw [hc x y hx hy, hc y x hy hx]
    by_cases h : κ x = κ y
    · exact .inr (.inr (inj x y hx hy h))
    · omega
  · rw [Bool.and_eq_true]
    refine ⟨decide_eq_true ?_, decide_eq_true ?_⟩
    · rw [hc x y hx hy, hc y z hy hz, hc x z hx hz]; omega
    · rw [hc x y hx hy, hc y z hy hz, hc x z hx hz]; omega
 unfold sortC
 rw [if_pos ok, isrtC_congr (lt' := ltK κ) fun x y hx hy => by rw [decide_eq_decide]; exact hc x y hx hy]
end
end Go.L


set_option linter.all false
namespace Go.L
open Go Go.Eng
section
variable {γ : Type} [Inhabited γ]
def kpG (E : γ → γ → Bool) (s : List γ) : Nat → List γ
 | 0 => []
 | t + 1 => if t = 0 ∨ E (s.getD t default) (s.getD (t - 1) default) = false then kpG E s t ++ [s.getD t default] else kpG E s t
theorem kpG_len {E : γ → γ → Bool} {s : List γ} : ∀ t, (kpG E s t).length ≤ t
 | 0 => Nat.le_refl _
 | t + 1 => by
  unfold kpG; have := kpG_len (E := E) (s := s) t
  split
  · simp; omega
  · omega
theorem memG {l : List γ} {k : Nat} (h : k < l.length) : l.getD k default ∈ l := by
 rw [List.getD_eq_getElem?_getD, List.getElem?_eq_getElem h]; exact List.getElem_mem h
theorem takeG {s : List γ} {k : Nat} (hk : k < s.length) : s.take (k + 1) = s.take k ++ [s.getD k default] := by
 rw [List.take_add_one, List.getD_eq_getElem?_getD, List.getElem?_eq_getElem hk]; rfl
theorem compactG {n : Nat} {s : List γ} {z : γ} {f : γ → γ → Option Bool} {E : γ → γ → Bool} (hE : ∀ x ∈ s, ∀ y ∈ s, f x y = some (E x y)) (hl : s.length ≤ 1024) (hn : 1024 < n) :
 cdO (decide ((s.length : Int) < 2)) (
  some (s)
 ) (
  bdO (loopO (α := Int) (β := Sum (Unit) (List γ)) n (fun again118 k_81 => (
   cdO (decide (k_81 < (s.length : Int))) (
    gdO (inR k_81 s.length) (
    gdO (inR (wrapF .i64 (k_81 - 1)) s.length) (
    bdO (f (gt s k_81) (gt s (wrapF .i64 (k_81 - 1)))) fun v122 => (
    cdO v122 (
     gdO (inS k_81 (s.length : Int) s.length) (
     bdO (loopO (α := List γ × Int × Int) (β := List γ × Int) n (fun again140 (s_126, k_127, k2_128) => (
      cdO (decide (k2_128 < ((s.length - k_81.toNat : Nat) : Int))) (
       gdO (inR k2_128 (s.length - k_81.toNat)) (
       gdO (inR ((k_81.toNat + k2_128.toNat : Nat) : Int) s_126.length) (
       gdO (inR (wrapF .i64 (k2_128 - 1)) (s.length - k_81.toNat)) (
       gdO (inR ((k_81.toNat + (wrapF .i64 (k2_128 - 1)).toNat : Nat) : Int) s_126.length) (
       bdO (f (gt s_126 ((k_81.toNat + k2_128.toNat : Nat) : Int)) (gt s_126 ((k_81.toNat + (wrapF .i64 (k2_128 - 1)).toNat : Nat) : Int))) fun v146 => (
       cdO (!v146) (
        gdO (inR k_127 s_126.length) (
        again140 (s_126.set k_127.toNat (gt s_126 ((k_81.toNat + k2_128.toNat : Nat) : Int)), wrapF .i64 (k_127 + 1), wrapF .i64 (k2_128 + 1))
        )
       ) (
        again140 (s_126, k_127, wrapF .i64 (k2_128 + 1))
       )
       )
       )
       )
       )
       )
      ) (
       some ((s_126, k_127))
      )
     )) (s, k_81, 1)) fun o150 => (
      match o150 with
      | (s_138, k_139) => (
       gdO (inS k_139 (s_138.length : Int) s_138.length) (
       gdO (inS 0 k_139 s_138.length) (
       some (Sum.inr (((overT s_138 k_139.toNat (List.replicate (s_138.length - k_139.toNat) z)).take k_139.toNat)))
       )
       )
      ))
     )
    ) (
     again118 (wrapF .i64 (k_81 + 1))
    )
    )
    )
    )
   ) (
    some (Sum.inl ())
   )
  )) 1) fun o155 => (
   match o155 with
   | .inl _ => (
    some (s)
   )
   | .inr (r0) => (
    some r0
   ))
 ) = some (kpG E s s.length) := by
 apply Ok.eq
 have kp0 : kpG E s 1 = [s.getD 0 default] := by simp [kpG]
 refine Ok.cd (fun h => ok_some.2 ?_) (fun h => ?_)
 · have h := of_decide_eq_true h
   match s, h with
   | [], _ => rfl
   | [a], _ => simp [kpG]
   | a :: b :: s, h => simp at h; omega
 · have h2 : 2 ≤ s.length := by have := of_decide_eq_false h; omega
   refine Ok.bd (R := fun o => match o with | .inl _ => s = kpG E s s.length | .inr r => r = kpG E s s.length) ?_ (fun o ho => by cases o <;> exact ok_some.2 ho)
   refine ok_loop (fun x : Int => ∃ k : Nat, x = k ∧ 1 ≤ k ∧ k ≤ s.length ∧ kpG E s k = s.take k) (fun x => s.length - x.toNat) ?_ n 1 ⟨1, rfl, by omega, by omega, by rw [kp0, takeG (by omega)]; rfl⟩ (by simp; omega)
   rintro again x ⟨k, rfl, h1, hk, hP⟩ ih
   refine Ok.cd (fun hlt => ?_) (fun hge => ?_)
   · have hlt : k < s.length := by have := of_decide_eq_true hlt; omega
     have ek : ((k : Int) - 1) = ((k - 1 : Nat) : Int) := by omega
     rw [wrap64_in (n := (k : Int) - 1) (by omega) (by omega), ek, inR_nat, inR_nat, gt_nat, gt_nat]
     refine Ok.gd (decide_eq_true hlt) (Ok.gd (decide_eq_true (by omega)) ?_)
     refine Ok.bde (hE _ (memG hlt) _ (memG (show k - 1 < s.length by omega))) ?_
     refine Ok.cd (fun he => ?_) (fun he => ?_)
     · have hP1 : kpG E s (k + 1) = s.take k := by
        rw [kpG, if_neg (by rw [he]; simp; omega), hP]
       refine Ok.gd (by rw [inS_iff]; omega) ?_
       have ekn : ((k : Int)).toNat = k := by omega
       rw [ekn]
       refine Ok.bd (R := fun o => o.1.length = s.length ∧ (o.2 : Int) = ((kpG E s s.length).length : Nat) ∧ o.1.take (kpG E s s.length).length = kpG E s s.length) ?_ ?_
       · refine ok_loop (fun q : List γ × Int × Int => ∃ m : Nat, q.2.2 = m ∧ 1 ≤ m ∧ k + m ≤ s.length ∧ q.1.length = s.length ∧ q.2.1 = ((kpG E s (k + m)).length : Nat) ∧ (kpG E s (k + m)).length ≤ k + m - 1 ∧ q.1.take (kpG E s (k + m)).length = kpG E s (k + m) ∧ ∀ j, (kpG E s (k + m)).length ≤ j → q.1.getD j default = s.getD j default) (fun q => s.length - q.2.2.toNat) ?_ n _ ?_ ?_
         · rintro again2 ⟨b, x, y⟩ ⟨m, hm, m1, mk, bl, hx, hle, ht, hg⟩ ih2
           dsimp only at hm bl hx ht hg
           subst hm hx
           dsimp only
           have e1 : ((s.length - k : Nat) : Int) = (s.length : Int) - k := by omega
           refine Ok.cd (fun hlt2 => ?_) (fun hge2 => ?_)
           · have hlt2 : k + m < s.length := by have := of_decide_eq_true hlt2; omega
             have em : ((m : Int)).toNat = m := by omega
             have em1 : ((m : Int) - 1) = ((m - 1 : Nat) : Int) := by omega
             have em1n : (((m - 1 : Nat) : Int)).toNat = m - 1 := by omega
             rw [wrap64_in (n := (m : Int) - 1) (by omega) (by omega), em1, em, em1n, inR_nat, inR_nat, inR_nat, inR_nat, gt_nat, gt_nat]
             refine Ok.gd (decide_eq_true (by omega)) (Ok.gd (decide_eq_true (by omega)) (Ok.gd (decide_eq_true (by omega)) (Ok.gd (decide_eq_true (by omega)) ?_)))
             have g1 := hg (k + m) (by omega)
             have g2 := hg (k + (m - 1)) (by omega)
             rw [g1, g2]
             refine Ok.bde (hE _ (memG hlt2) _ (memG (show k + (m - 1) < s.length by omega))) ?_
             have ekm : k + (m - 1) = k + m - 1 := by omega
             rw [ekm]
             have hw : wrapF .i64 ((m : Int) + 1) = ((m + 1 : Nat) : Int) := by rw [wrap64_in (by omega) (by omega)]; omega
             rw [hw]
             clear hw
             refine Ok.cd (fun hn => ?_) (fun hn => ?_)
             · have hn : E (s.getD (k + m) default) (s.getD (k + m - 1) default) = false := by simpa using hn
               have hK : kpG E s (k + (m + 1)) = kpG E s (k + m) ++ [s.getD (k + m) default] := by
                rw [← Nat.add_assoc, kpG, if_pos (.inr hn)]
               have hw2 : wrapF .i64 ((((kpG E s (k + m)).length : Nat) : Int) + 1) = (((kpG E s (k + m)).length + 1 : Nat) : Int) := by rw [wrap64_in (by omega) (by omega)]; omega
               rw [hw2]
               clear hw2
               refine Ok.gd (decide_eq_true (by omega)) ?_
               have en : ((((kpG E s (k + m)).length : Nat) : Int)).toNat = (kpG E s (k + m)).length := by omega
               rw [en]
               refine ih2 _ ⟨m + 1, rfl, by omega, by omega, by simpa using bl, by rw [hK]; simp, by rw [hK]; simp; omega, ?_, ?_⟩ ?_
               · dsimp only
                 rw [hK, List.length_append, List.length_singleton, takeG (by simp; omega), List.take_set_of_le (by omega), ht]
                 congr 1
                 rw [List.getD_eq_getElem?_getD, List.getElem?_set, if_pos rfl, bl, if_pos (by omega)]; rfl
               · intro j hj
                 dsimp only
                 rw [hK] at hj
                 simp only [List.length_append, List.length_singleton] at hj
                 have := hg j (by omega)
                 simp only [List.getD, List.getElem?_set, if_neg (by omega : ¬ (kpG E s (k + m)).length = j)] at this ⊢
                 exact this
               · show s.length - ((m + 1 : Nat) : Int).toNat < s.length - ((m : Int)).toNat
                 omega
             · have hn : E (s.getD (k + m) default) (s.getD (k + m - 1) default) = true := by simpa using hn
               have hK : kpG E s (k + (m + 1)) = kpG E s (k + m) := by
                rw [← Nat.add_assoc, kpG, if_neg (by rw [hn]; simp; omega)]
               refine ih2 _ ⟨m + 1, rfl, by omega, by omega, bl, by rw [hK], by rw [hK]; omega, by rw [hK]; exact ht, by rw [hK]; exact hg⟩ ?_
               show s.length - ((m + 1 : Nat) : Int).toNat < s.length - ((m : Int)).toNat
               omega
           · have hge2 := of_decide_eq_false hge2
             have e : k + m = s.length := by omega
             rw [e] at ht
             refine ok_some.2 ⟨bl, ?_, ht⟩
             dsimp only
             rw [e]
         · exact ⟨1, rfl, by omega, by omega, rfl, by show (k : Int) = _; rw [hP1, List.length_take, Nat.min_eq_left (by omega)], by rw [hP1, List.length_take]; omega, by rw [hP1, List.length_take, Nat.min_eq_left (by omega)], fun j hj => rfl⟩
         · show s.length - 1 < n
           omega
       · rintro ⟨b, x⟩ ⟨bl, hx, ht⟩
         dsimp only at bl hx ht
         subst hx
         dsimp only
         have hK := kpG_len (E := E) (s := s) s.length
         refine Ok.gd (by rw [inS_iff]; omega) (Ok.gd (by rw [inS_iff]; omega) (ok_some.2 ?_))
         have en : ((((kpG E s s.length).length : Nat) : Int)).toNat = (kpG E s s.length).length := by omega
         rw [en, overT_eq (by simp; omega)]
         show List.take _ _ = _
         rw [List.append_assoc, List.take_append_of_le_length (by rw [List.length_take]; omega), List.take_take, Nat.min_self]
         exact ht
     · have hw : wrapF .i64 ((k : Int) + 1) = ((k + 1 : Nat) : Int) := by rw [wrap64_in (by omega) (by omega)]; omega
       rw [hw]
       clear hw
       refine ih _ ⟨k + 1, rfl, by omega, by omega, ?_⟩ (by omega)
       rw [kpG, if_pos (.inr he), hP, takeG hlt]
   · have hge := of_decide_eq_false hge
     have e : k = s.length := by omega
     subst e
     refine ok_some.2 ?_
     show s = _
     rw [hP, List.take_length]
end
end Go.L


set_option linter.all false
namespace Go.L
open Go Go.Eng
def popc (x : Nat) : Nat := (List.range 12).countP fun k => x.testBit k
def orOk : Bool := (List.range 12).all fun k => (List.range (2 ^ k)).all fun c => bitO .or .u64 (c : Int) (shlF .u64 1 (k : Int)) == ((c + 2 ^ k : Nat) : Int)
theorem orOk_t : orOk = true := by kernel_rfl
def onesOk : Bool := (List.range 4096).all fun x => math_bits_OnesCount64 0 (x : Int) == some ((popc x : Nat) : Int)
theorem onesOk_t : onesOk = true := by kernel_rfl
end Go.L


set_option linter.all false
namespace Go.L
open Go Go.Eng
def QU (u : Int) (x : api_Rat) (m : Int) : Prop := R.Qx x (Rat.divInt m u) 3
theorem isI_val {p : Bool} {g : List Int} {v w : Int} (a : isI p g v) (b : isI p g w) : v = w := by rw [a.2.2, b.2.2]
theorem Qx_ext {x y : api_Rat} {r : Rat} {j k : Nat} (h : R.Qx x r j) (h' : R.Qx y r k) : x = y := by
 have e1 := isI_inj h.num h'.num
 have e2 := isI_inj h.den h'.den
 obtain ⟨⟨a, b⟩, ⟨c, d⟩⟩ := x
 obtain ⟨⟨a', b'⟩, ⟨c', d'⟩⟩ := y
 simp only at e1 e2
 rw [e1.1, e1.2, e2.1, e2.2]
theorem Qx_val {x : api_Rat} {r s : Rat} {j k : Nat} (h : R.Qx x r j) (h' : R.Qx x s k) : r = s := by
 have e1 := isI_val h.num h'.num
 have e2 := isI_val h.den h'.den
 exact Rat.ext e1 (by omega)
theorem divInt_inj {m m' u : Int} (hu : 0 < u) (h : Rat.divInt m u = Rat.divInt m' u) : m = m' := by
 rw [Rat.divInt_eq_divInt_iff (by omega) (by omega)] at h
 exact Int.eq_of_mul_eq_mul_right (by omega) h
theorem tight3 {x : api_Rat} {r : Rat} {j : Nat} (h : R.Qx x r j) {p q : Int} (hr : r = Rat.divInt p q) (hq : 0 < q) (h1 : -4611686018427387904 ≤ p) (h2 : p ≤ 4611686018427387904) (h3 : q ≤ 4611686018427387904) : R.Qx x (Rat.divInt p q) 3 := by
 subst hr
 exact QL.tight h rfl hq (by rw [pB3]; omega) (by rw [pB3]; omega) (by rw [pB3]; omega)
def Fit (u m : Int) : Prop := (1 ≤ u ∧ u ≤ 4611686018427387904) ∧ -4611686018427387904 ≤ m ∧ m ≤ 4611686018427387904
theorem ex_rq {u m : Int} (h : Fit u m) : ∃ x, QU u x m := by
 obtain ⟨⟨a, b⟩, c, d⟩ := h
 obtain ⟨z, _, hz, _⟩ := R.qOf_ok (n := 5000) (p := m) (q := u) (by omega) (by omega) (by omega) (by omega) (by omega) (by omega)
 exact ⟨z.1, hz⟩
open Classical in
noncomputable def rq (u m : Int) : api_Rat := if h : ∃ x, QU u x m then h.choose else default
theorem rq_ok {u m : Int} (h : Fit u m) : QU u (rq u m) m := by
 have e := ex_rq h
 unfold rq; rw [dif_pos e]; exact e.choose_spec
theorem QU.eq {u m : Int} {x : api_Rat} (h : QU u x m) (hf : Fit u m) : x = rq u m := Qx_ext h (rq_ok hf)
theorem rq_inj {u m m' : Int} (h : Fit u m) (h' : Fit u m') (e : rq u m = rq u m') : m = m' := by
 have a := rq_ok h
 rw [e] at a
 exact divInt_inj (by have := h.1; omega) (Qx_val a (rq_ok h'))
theorem cmp_rq {n : Nat} (hn : 5000 ≤ n) {u m m' : Int} (h : Fit u m) (h' : Fit u m') : fiducialref02_Compare n (rq u m) (rq u m') = some (sgn (m - m')) := by
 have hu := h.1
 rw [R.qCompare_ok hn (j := 3) (k := 3) (by omega) (rq_ok h) (rq_ok h'), sgn_sub (by omega) (by omega)]
 have e : m * u - m' * u = (m - m') * u := by grind
 rw [e]
 congr 1
 have h0 := sgn_cases (m - m')
 have h1 := sgn_cases ((m - m') * u)
 rcases Int.lt_trichotomy (m - m') 0 with k | k | k
 · have := Int.mul_neg_of_neg_of_pos k (show 0 < u by omega); omega
 · rw [k] at h1 ⊢; rw [Int.zero_mul] at h1 ⊢
 · have := Int.mul_pos k (show 0 < u by omega); omega
theorem same_rq {n : Nat} (hn : 5000 ≤ n) {u m m' : Int} (h : Fit u m) (h' : Fit u m') : fiducialref02_Same n (rq u m) (rq u m') = some (decide (m = m')) := by
 apply Ok.eq
 unfold fiducialref02_Same
 refine Ok.bde (R.qValid_ok hn (by omega) (rq_ok h)) (Ok.cd (fun _ => ?_) fun h => by cases h)
 refine Ok.bde (R.qValid_ok hn (by omega) (rq_ok h')) (Ok.cd (fun _ => ?_) fun h => by cases h)
 refine Ok.bde (cmp_rq hn h h') (ok_some.2 ?_)
 have := sgn_cases (m - m')
 rw [Bool.eq_iff_iff, beq_iff_eq, decide_eq_true_iff]; omega
theorem absU_ok {n : Nat} {x : api_Rat} {v q : Int} {k : Nat} (hn : 5000 ≤ n) (hk : k ≤ 60) (hq : 0 < q) (hx : R.Qx x (Rat.divInt v q) k) : Ok (fiducialref02_Abs n x) fun z => R.Qx z (Rat.divInt (v.natAbs : Int) q) k := by
 unfold fiducialref02_Abs
 refine Ok.bde (R.qSign_ok hn hk hx) ?_
 have e0 : sgn (Rat.divInt v q).num = sgn v := by
  have := sgn_sub (p := v) (q := q) (s := 0) (t := 1) hq (by omega)
  rw [Rat.zero_divInt, Rat.sub_eq_add_neg, show -(0 : Rat) = 0 from rfl, Rat.add_zero] at this
  rw [this, Int.mul_one, Int.zero_mul, Int.sub_zero]
 rw [e0]
 have hs := sgn_cases v
 refine Ok.cd (fun h => ?_) (fun h => ?_)
 · have h := of_decide_eq_true h
   refine Ok.bd (R.qNeg_ok hn hk hx) fun z hz => ok_some.2 ?_
   rw [Rat.neg_divInt] at hz
   rw [show (v.natAbs : Int) = -v by omega]; exact hz
 · have h := of_decide_eq_false h
   refine Ok.bde (R.qValue_ok hn hk hx) (ok_some.2 ?_)
   rw [show (v.natAbs : Int) = v by omega]; exact hx
def nearG (q F z p a : Int) : Bool := decide (2 * ((p - a * q).natAbs : Int) * F ≤ z * q)
theorem nearG_ok {n : Nat} (hn : 5000 ≤ n) {x l : api_Rat} {p q a z F : Int} (hx : R.Qx x (Rat.divInt p q) 3) (hl : R.Qx l (Rat.divInt z F) 3) (hF : 0 < F) (hq : 0 < q ∧ q ≤ 4194304) (hp : -4398046511104 ≤ p ∧ p ≤ 4398046511104) (ha : -1048576 ≤ a ∧ a ≤ 1048576) :
  fiduciallaw55_near n x a l = some (nearG q F z p a) := by
 apply Ok.eq
 unfold fiduciallaw55_near
 refine Ok.bd (R.qWhole_ok hn (by omega) (by omega)) fun w hw => Ok.bd (R.qSub_ok hn (j := 3) (k := 3) (by omega) hx hw) fun d hd => ?_
 have e1 : Rat.divInt p q - Rat.divInt a 1 = Rat.divInt (p - a * q) q := by
  rw [Rat.divInt_sub_divInt _ _ (by omega) (by omega), Int.mul_one, Int.mul_one]
 have hb := mul_bound (a := a) (b := q) (A := 1048576) (B := 4194304) (by omega) (by omega) (by omega) (by omega)
 have hd := tight3 hd e1 hq.1 (by omega) (by omega) (by omega)
 refine Ok.bd (absU_ok hn (by omega) hq.1 hd) fun e he => Ok.bd (R.qAdd_ok hn (j := 3) (k := 3) (by omega) he he) fun f hf => ?_
 have e2 : Rat.divInt ((p - a * q).natAbs : Int) q + Rat.divInt ((p - a * q).natAbs : Int) q = Rat.divInt (2 * ((p - a * q).natAbs : Int)) q := by
  rw [Rat.divInt_add_divInt _ _ (by omega) (by omega), Rat.divInt_eq_divInt_iff (by have := Int.mul_pos hq.1 hq.1; omega) (by omega)]
  grind
 have hf := tight3 hf e2 hq.1 (by omega) (by omega) (by omega)
 refine Ok.bde (R.qCompare_ok hn (j := 3) (k := 3) (by omega) hf hl) (ok_some.2 ?_)
 rw [sgn_sub hq.1 hF]
 unfold nearG
 apply decide_eq_decide.2
 have h0 := sgn_cases (2 * ((p - a * q).natAbs : Int) * F - z * q)
 omega
end Go.L


set_option linter.all false
namespace Go.L
open Go Go.Eng
def maskN (f : Nat → Bool) : Nat → Nat
 | 0 => 0
 | k + 1 => maskN f k + if f k then 2 ^ k else 0
theorem maskN_lt (f : Nat → Bool) : ∀ k, maskN f k < 2 ^ k
 | 0 => by simp [maskN]
 | k + 1 => by
  have := maskN_lt f k
  rw [maskN, Nat.pow_succ]; split <;> omega
theorem maskN_bit (f : Nat → Bool) (j : Nat) : ∀ k, (maskN f k).testBit j = (decide (j < k) && f j)
 | 0 => by simp [maskN]
 | k + 1 => by
  have hlt := maskN_lt f k
  have ih := maskN_bit f j k
  rw [maskN]
  cases hf : f k with
  | false =>
   simp only [Bool.false_eq_true, if_false, Nat.add_zero]
   rw [ih]
   by_cases hjk : j = k
   · subst hjk; simp [hf]
   · have : decide (j < k) = decide (j < k + 1) := by rw [decide_eq_decide]; omega
     rw [this]
  | true =>
   simp only [if_true]
   rw [Nat.add_comm]
   by_cases hjk : j = k
   · subst hjk
     rw [Nat.testBit_two_pow_add_eq, ih]; simp [hf]
   · rcases Nat.lt_or_ge j k with h | h
     · rw [Nat.testBit_two_pow_add_gt h, ih]
       have : decide (j < k) = decide (j < k + 1) := by rw [decide_eq_decide]; omega
       rw [this]
     · have h1 : (2 ^ k + maskN f k).testBit j = false := by
        apply Nat.testBit_lt_two_pow
        have : 2 ^ (k + 1) ≤ 2 ^ j := Nat.pow_le_pow_right (by omega) (by omega)
        rw [Nat.pow_succ] at this; omega
       rw [h1]; simp; intro hh; omega
theorem or_v {k c : Nat} (hk : k < 12) (hc : c < 2 ^ k) : bitO .or .u64 (c : Int) (shlF .u64 1 (k : Int)) = ((c + 2 ^ k : Nat) : Int) := by
 have h := orOk_t
 unfold orOk at h
 rw [List.all_eq_true] at h
 have h := h k (List.mem_range.2 hk)
 rw [List.all_eq_true] at h
 exact beq_iff_eq.1 (h c (List.mem_range.2 hc))
theorem and_v {a b : Nat} (ha : a < 4096) (hb : b < 4096) : bitO .and .u64 (a : Int) (b : Int) = ((a &&& b : Nat) : Int) := by
 have hlt : a &&& b < 4096 := Nat.lt_of_le_of_lt Nat.and_le_left ha
 unfold bitO
 have e : (BitVec.ofInt 64 (a : Int) &&& BitVec.ofInt 64 (b : Int)).toNat = a &&& b := by
  rw [BitVec.toNat_and, BitVec.ofInt_natCast, BitVec.ofInt_natCast, BitVec.toNat_ofNat, BitVec.toNat_ofNat, Nat.mod_eq_of_lt (by omega), Nat.mod_eq_of_lt (by omega)]
 show IntKind.u64.wrap ((BitVec.ofInt 64 (a : Int) &&& BitVec.ofInt 64 (b : Int)).toNat : Int) = _
 rw [e, ← wrapF_eq, wrapU64_in (by omega) (by omega)]
theorem ones_v {n x : Nat} (h : x < 4096) : math_bits_OnesCount64 n (x : Int) = some ((popc x : Nat) : Int) := by
 have k := onesOk_t
 unfold onesOk at k
 rw [List.all_eq_true] at k
 exact beq_iff_eq.1 (k x (List.mem_range.2 h))
theorem a4z (a : Int) {k : Nat} (h0 : k ≠ 0) (hk : k < 4) : A4.get (A4.mk a 0 0 0) (k : Int) = 0 := by
 rcases (by omega : k = 1 ∨ k = 2 ∨ k = 3) with h | h | h <;> subst h <;> rfl
theorem shared_v {n a b : Nat} (hn : 10 < n) (ha : a < 4096) (hb : b < 4096) : plan_shared n (A4.mk (a : Int) 0 0 0) (A4.mk (b : Int) 0 0 0) = some ((popc (a &&& b) : Nat) : Int) := by
 have hlt : a &&& b < 4096 := Nat.lt_of_le_of_lt Nat.and_le_left ha
 have hp : popc (a &&& b) ≤ 12 := Nat.le_trans List.countP_le_length (by simp)
 apply Ok.eq
 unfold plan_shared
 refine Ok.bd (R := fun o => o = ((popc (a &&& b) : Nat) : Int)) ?_ (fun o ho => ok_some.2 ho)
 have z : bitO .and .u64 0 0 = 0 := by kernel_rfl
 have z2 : math_bits_OnesCount64 n 0 = some 0 := ones_v (n := n) (x := 0) (by omega)
 refine ok_rangeR (len := 4) (fun k (c : Int) => c = if k = 0 then 0 else ((popc (a &&& b) : Nat) : Int)) (by omega) (by omega) rfl ?_ ?_
 · rintro again k c hk rfl ih
   refine Ok.cd (fun _ => ?_) (fun h => by simp at h; omega)
   refine Ok.gd (by rw [inR_nat]; simpa using hk) ?_
   by_cases h0 : k = 0
   · subst h0
     have e1 : A4.get (A4.mk (a : Int) 0 0 0) ((0 : Nat) : Int) = (a : Int) := rfl
     have e2 : A4.get (A4.mk (b : Int) 0 0 0) ((0 : Nat) : Int) = (b : Int) := rfl
     rw [e1, e2, and_v ha hb]
     refine Ok.bde (ones_v hlt) ?_
     rw [if_pos rfl, Int.zero_add, wrap64_in (n := ((popc (a &&& b) : Nat) : Int)) (by omega) (by omega)]
     exact ih _ (if_neg (by omega)).symm
   · rw [a4z _ h0 hk, a4z _ h0 hk, z]
     refine Ok.bde z2 ?_
     rw [if_neg h0, Int.add_zero, wrap64_in (n := ((popc (a &&& b) : Nat) : Int)) (by omega) (by omega)]
     exact ih _ (if_neg (by omega)).symm
 · rintro again c rfl
   exact Ok.cd (fun h => by simp at h) (fun _ => ok_some.2 rfl)
theorem pop_both (f g : Nat → Bool) {m : Nat} (hm : m ≤ 12) : popc (maskN f m &&& maskN g m) = (List.range m).countP fun k => f k && g k := by
 unfold popc
 have e : ∀ k, (maskN f m &&& maskN g m).testBit k = (decide (k < m) && (f k && g k)) := fun k => by
  rw [Nat.testBit_and, maskN_bit, maskN_bit]; cases decide (k < m) <;> simp
 rw [List.countP_congr (q := fun k => decide (k < m) && (f k && g k)) (fun k _ => by rw [e])]
 obtain ⟨d, hd⟩ : ∃ d, 12 = m + d := ⟨12 - m, by omega⟩
 rw [hd, List.range_add, List.countP_append]
 have h0 : List.countP (fun k => decide (k < m) && (f k && g k)) ((List.range d).map (m + ·)) = 0 := by
  rw [List.countP_eq_zero]
  intro x hx
  obtain ⟨y, _, rfl⟩ := List.mem_map.1 hx
  have : decide (m + y < m) = false := decide_eq_false (by omega)
  rw [this]; simp
 rw [h0, Nat.add_zero]
 exact List.countP_congr fun k hk => by simp [List.mem_range.1 hk]
end Go.L

