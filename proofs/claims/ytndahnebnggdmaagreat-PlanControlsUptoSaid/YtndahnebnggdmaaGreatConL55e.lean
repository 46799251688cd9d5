import Derived.Test.YtndahnebnggdmaaGreatConL55z
import Derived.Test.YtndahnebnggdmaaGreatConL02s
import Derived.Test.YtndahnebnggdmaaGreatConLD
import Derived.Test.YtndahnebnggdmaaGreatPl2pkcjgaif
import Derived.KernelRfl
set_option linter.all false
namespace Go.L
open Go Go.Eng
def QU (u : Int) (x : api_Rat) (m : Int) : Prop := R.Qx x (Rat.divInt m u) 3
theorem Qx_ext {x y : api_Rat} {r : Rat} {j k : Nat} (h : R.Qx x r j) (h' : R.Qx y r k) : x = y := by
 have e1 := isI_inj h.num h'.num
 have e2 := isI_inj h.den h'.den
 obtain ⟨⟨a, b⟩, ⟨c, d⟩⟩ := x
 obtain ⟨⟨a', b'⟩, ⟨c', d'⟩⟩ := y
 simp only at e1 e2
 rw [e1.1, e1.2, e2.1, e2.2]
theorem tight3 {x : api_Rat} {r : Rat} {j : Nat} (h : R.Qx x r j) {p q : Int} (hr : r = Rat.divInt p q) (hq : 0 < q) (h1 : -4611686018427387904 ≤ p) (h2 : p ≤ 4611686018427387904) (h3 : q ≤ 4611686018427387904) : R.Qx x (Rat.divInt p q) 3 := by
 subst hr
 exact QL.tight h rfl hq (by rw [pB3]; omega) (by rw [pB3]; omega) (by rw [pB3]; omega)
def Fit (u m : Int) : Prop := (1 ≤ u ∧ u ≤ 4611686018427387904) ∧ -4611686018427387904 ≤ m ∧ m ≤ 4611686018427387904
theorem ex_rq {u m : Int} (h : Fit u m) : ∃ x, QU u x m := by
 obtain ⟨⟨a, b⟩, c, d⟩ := h
 obtain ⟨z, _, hz, _⟩ := R.qOf_ok (n := 5000) (p := m) (q := u) (by omega) (by omega) (by omega) (by omega) (by omega) (by omega)
 exact ⟨z.1, hz⟩
open Classical in
noncomputable def rq (u m : Int) : api_Rat := if h : ∃ x, QU u x m then h.choose else default
theorem rq_ok {u m : Int} (h : Fit u m) : QU u (rq u m) m := by
 have e := ex_rq h
 unfold rq; rw [dif_pos e]; exact e.choose_spec
theorem QU.eq {u m : Int} {x : api_Rat} (h : QU u x m) (hf : Fit u m) : x = rq u m := Qx_ext h (rq_ok hf)
theorem absU_ok {n : Nat} {x : api_Rat} {v q : Int} {k : Nat} (hn : 5000 ≤ n) (hk : k ≤ 60) (hq : 0 < q) (hx : R.Qx x (Rat.divInt v q) k) : Ok (fiducialref02_Abs n x) fun z => R.Qx z (Rat.divInt (v.natAbs : Int) q) k := by
 unfold fiducialref02_Abs
 refine Ok.bde (R.qSign_ok hn hk hx) ?_
 have e0 : sgn (Rat.divInt v q).num = sgn v := by
  have := sgn_sub (p := v) (q := q) (s := 0) (t := 1) hq (by omega)
  rw [Rat.zero_divInt, Rat.sub_eq_add_neg, show -(0 : Rat) = 0 from rfl, Rat.add_zero] at this
  rw [this, Int.mul_one, Int.zero_mul, Int.sub_zero]
 rw [e0]
 have hs := sgn_cases v
 refine Ok.cd (fun h => ?_) (fun h => ?_)
 · have h := of_decide_eq_true h
   refine Ok.bd (R.qNeg_ok hn hk hx) fun z hz => ok_some.2 ?_
   rw [Rat.neg_divInt] at hz
   rw [show (v.natAbs : Int) = -v by omega]; exact hz
 · have h := of_decide_eq_false h
   refine Ok.bde (R.qValue_ok hn hk hx) (ok_some.2 ?_)
   rw [show (v.natAbs : Int) = v by omega]; exact hx
def nearG (q F z p a : Int) : Bool := decide (2 * ((p - a * q).natAbs : Int) * F ≤ z * q)
theorem nearG_ok {n : Nat} (hn : 5000 ≤ n) {x l : api_Rat} {p q a z F : Int} (hx : R.Qx x (Rat.divInt p q) 3) (hl : R.Qx l (Rat.divInt z F) 3) (hF : 0 < F) (hq : 0 < q ∧ q ≤ 4194304) (hp : -4398046511104 ≤ p ∧ p ≤ 4398046511104) (ha : -1048576 ≤ a ∧ a ≤ 1048576) :
  fiduciallaw55_near n x a l = some (nearG q F z p a) := by
 apply Ok.eq
 unfold fiduciallaw55_near
 refine Ok.bd (R.qWhole_ok hn (by omega) (by omega)) fun w hw => Ok.bd (R.qSub_ok hn (j := 3) (k := 3) (by omega) hx hw) fun d hd => ?_
 have e1 : Rat.divInt p q - Rat.divInt a 1 = Rat.divInt (p - a * q) q := by
  rw [Rat.divInt_sub_divInt _ _ (by omega) (by omega), Int.mul_one, Int.mul_one]
 have hb := mul_bound (a := a) (b := q) (A := 1048576) (B := 4194304) (by omega) (by omega) (by omega) (by omega)
 have hd := tight3 hd e1 hq.1 (by omega) (by omega) (by omega)
 refine Ok.bd (absU_ok hn (by omega) hq.1 hd) fun e he => Ok.bd (R.qAdd_ok hn (j := 3) (k := 3) (by omega) he he) fun f hf => ?_
 have e2 : Rat.divInt ((p - a * q).natAbs : Int) q + Rat.divInt ((p - a * q).natAbs : Int) q = Rat.divInt (2 * ((p - a * q).natAbs : Int)) q := by
  rw [Rat.divInt_add_divInt _ _ (by omega) (by omega), Rat.divInt_eq_divInt_iff (by have := Int.mul_pos hq.1 hq.1; omega) (by omega)]
  grind
 have hf := tight3 hf e2 hq.1 (by omega) (by omega) (by omega)
 refine Ok.bde (R.qCompare_ok hn (j := 3) (k := 3) (by omega) hf hl) (ok_some.2 ?_)
 rw [sgn_sub hq.1 hF]
 unfold nearG
 apply decide_eq_decide.2
 have h0 := sgn_cases (2 * ((p - a * q).natAbs : Int) * F - z * q)
 omega
end Go.L


set_option linter.all false
namespace Go.L
open Go Go.Eng
def Inc (n : Nat) : Nat → List Nat → Prop
 | _, [] => True
 | a, k :: C => a ≤ k ∧ k < n ∧ Inc n (k + 1) C
def lxN : List Nat → List Nat → Bool
 | [], _ => true
 | _ :: _, [] => false
 | x :: a, y :: b => decide (x < y) || (decide (x = y) && lxN a b)
theorem lxN_cons {x y : Nat} {a b : List Nat} : lxN (x :: a) (y :: b) = true ↔ x < y ∨ (x = y ∧ lxN a b = true) := by simp [lxN]
theorem lxN_refl : ∀ a, lxN a a = true
 | [] => rfl
 | x :: a => lxN_cons.2 (.inr ⟨rfl, lxN_refl a⟩)
theorem lxN_anti : ∀ a b, lxN a b = true → lxN b a = true → a = b
 | [], [], _, _ => rfl
 | [], _ :: _, _, h => by cases h
 | _ :: _, [], h, _ => by cases h
 | x :: a, y :: b, h, k => by
  rcases lxN_cons.1 h with h1 | ⟨rfl, h1⟩ <;> rcases lxN_cons.1 k with k1 | ⟨e, k1⟩
  · omega
  · omega
  · omega
  · rw [lxN_anti a b h1 k1]
theorem lxN_trans : ∀ a b c, lxN a b = true → lxN b c = true → lxN a c = true
 | [], _, _, _, _ => rfl
 | _ :: _, [], _, h, _ => by cases h
 | _ :: _, _ :: _, [], _, h => by cases h
 | x :: a, y :: b, z :: c, h, k => by
  rcases lxN_cons.1 h with h1 | ⟨rfl, h1⟩ <;> rcases lxN_cons.1 k with k1 | ⟨rfl, k1⟩
  · exact lxN_cons.2 (.inl (by omega))
  · exact lxN_cons.2 (.inl h1)
  · exact lxN_cons.2 (.inl k1)
  · exact lxN_cons.2 (.inr ⟨rfl, lxN_trans a b c h1 k1⟩)
theorem lxN_total : ∀ a b, lxN a b = true ∨ lxN b a = true
 | [], _ => .inl rfl
 | _ :: _, [] => .inr rfl
 | x :: a, y :: b => by
  rcases Nat.lt_trichotomy x y with h | rfl | h
  · exact .inl (lxN_cons.2 (.inl h))
  · rcases lxN_total a b with k | k
    · exact .inl (lxN_cons.2 (.inr ⟨rfl, k⟩))
    · exact .inr (lxN_cons.2 (.inr ⟨rfl, k⟩))
  · exact .inr (lxN_cons.2 (.inl h))
def leS (C D : List Nat) : Prop := C.length < D.length ∨ (C.length = D.length ∧ lxN C D = true)
theorem leS_refl (C : List Nat) : leS C C := .inr ⟨rfl, lxN_refl C⟩
theorem leS_anti {C D : List Nat} (h : leS C D) (k : leS D C) : C = D := by
 rcases h with h | ⟨e, h⟩ <;> rcases k with k | ⟨e', k⟩
 · omega
 · omega
 · omega
 · exact lxN_anti C D h k
theorem leS_trans {A B C : List Nat} (h : leS A B) (k : leS B C) : leS A C := by
 rcases h with h | ⟨e, h⟩ <;> rcases k with k | ⟨e', k⟩
 · exact .inl (by omega)
 · exact .inl (by omega)
 · exact .inl (by omega)
 · exact .inr ⟨by omega, lxN_trans A B C h k⟩
theorem Inc.mem {n : Nat} : ∀ {a : Nat} {C : List Nat}, Inc n a C → ∀ x, x ∈ C → a ≤ x ∧ x < n
 | a, [], _, x, hx => by cases hx
 | a, k :: C, h, x, hx => by
  rcases List.mem_cons.1 hx with rfl | hx
  · exact ⟨h.1, h.2.1⟩
  · have := h.2.2.mem x hx
    have := h.1; omega
theorem Inc.mono {n a b : Nat} (hab : a ≤ b) : ∀ {C : List Nat}, Inc n b C → Inc n a C
 | [], _ => trivial
 | k :: C, h => ⟨by have := h.1; omega, h.2⟩
theorem Inc.len {n : Nat} : ∀ {a : Nat} {C : List Nat}, Inc n a C → a ≤ n → a + C.length ≤ n
 | a, [], _, h => by simpa using h
 | a, k :: C, h, _ => by
  have := h.2.2.len h.2.1
  have := h.1
  rw [List.length_cons]; omega
def setN (x a m : Nat) : List Nat := (List.range' a m).filter fun k => x.testBit k
theorem setN_inc (x : Nat) : ∀ m a, Inc (a + m) a (setN x a m)
 | 0, a => trivial
 | m + 1, a => by
  have h := setN_inc x m (a + 1)
  rw [show a + 1 + m = a + (m + 1) by omega] at h
  unfold setN
  rw [List.range'_succ, List.filter_cons]
  split
  · exact ⟨Nat.le_refl _, by omega, h⟩
  · exact h.mono (by omega)
theorem filter_inc : ∀ m a C, Inc (a + m) a C → (List.range' a m).filter (fun k => decide (k ∈ C)) = C
 | 0, a, [], _ => rfl
 | 0, a, k :: C, h => by have := h.1; have := h.2.1; omega
 | m + 1, a, C, h => by
  rw [List.range'_succ, List.filter_cons]
  cases C with
  | nil => simp
  | cons k C =>
   by_cases e : a = k
   · subst e
     rw [if_pos (by simp)]
     have h2 := h.2.2
     rw [show a + (m + 1) = a + 1 + m by omega] at h2
     have := filter_inc m (a + 1) C h2
     congr 1
     refine (List.filter_congr fun x hx => ?_).trans this
     have hx := (List.mem_range'_1.1 hx).1
     rw [decide_eq_decide, List.mem_cons]
     exact ⟨fun h => h.resolve_left (by omega), .inr⟩
   · have h1 := h.1
     rw [if_neg (by
      simp only [decide_eq_true_eq, List.mem_cons, not_or]
      exact ⟨e, fun hm => by have := (h.2.2.mem a hm).1; omega⟩)]
     exact filter_inc m (a + 1) (k :: C) ⟨by omega, by have := h.2.1; omega, by
      have := h.2.2
      rwa [show a + (m + 1) = a + 1 + m by omega] at this⟩
def orL (L : List Nat) (m : Nat) : Nat := L.foldl (fun m k => m ||| 2 ^ k) m
def maskL (L : List Nat) : Nat := orL L 0
theorem maskL_snoc (L : List Nat) (k : Nat) : maskL (L ++ [k]) = maskL L ||| 2 ^ k := by simp [maskL, orL, List.foldl_append]
theorem orL_bit (j : Nat) : ∀ (L : List Nat) (m : Nat), (orL L m).testBit j = (m.testBit j || decide (j ∈ L))
 | [], m => by simp [orL]
 | k :: L, m => by
  show (orL L (m ||| 2 ^ k)).testBit j = _
  rw [orL_bit j L, Nat.testBit_or, Nat.testBit_two_pow]
  by_cases h : k = j
  · subst h; simp
  · have : ¬ j = k := fun e => h e.symm
    simp [h, this]
theorem maskL_bit (L : List Nat) (j : Nat) : (maskL L).testBit j = decide (j ∈ L) := by rw [maskL, orL_bit]; simp
theorem orL_lt {n : Nat} : ∀ (L : List Nat) (m : Nat), m < 2 ^ n → (∀ k ∈ L, k < n) → orL L m < 2 ^ n
 | [], m, h, _ => h
 | k :: L, m, h, hL => orL_lt L _ (Nat.or_lt_two_pow h (Nat.pow_lt_pow_right (by omega) (hL k (by simp)))) fun x hx => hL x (by simp [hx])
theorem maskL_lt {n : Nat} {L : List Nat} (hL : ∀ k ∈ L, k < n) : maskL L < 2 ^ n := orL_lt L 0 (Nat.two_pow_pos n) hL
theorem setN_mask {n : Nat} {C : List Nat} (h : Inc n 0 C) : setN (maskL C) 0 n = C := by
 have := filter_inc n 0 C (by simpa using h)
 unfold setN
 refine (List.filter_congr fun x hx => ?_).trans this
 exact maskL_bit C x
def castL (C : List Nat) : List Int := C.map fun (k : Nat) => (k : Int)
theorem castL_snoc (L : List Nat) (k : Nat) : castL (L ++ [k]) = castL L ++ [(k : Int)] := by simp [castL]
theorem castL_len (L : List Nat) : (castL L).length = L.length := by simp [castL]
theorem castL_at {L : List Nat} {k : Nat} (h : k < L.length) : (castL L).getD k default = ((L.getD k default : Nat) : Int) := by simp [castL, List.getD, h]
theorem or64 {a b : Nat} (ha : a < 65536) (hb : b < 65536) : bitO .or .i64 (a : Int) (b : Int) = ((a ||| b : Nat) : Int) := by
 have hlt : a ||| b < 65536 := Nat.or_lt_two_pow (n := 16) ha hb
 unfold bitO
 have e : (BitVec.ofInt 64 (a : Int) ||| BitVec.ofInt 64 (b : Int)).toNat = a ||| b := by
  rw [BitVec.toNat_or, BitVec.ofInt_natCast, BitVec.ofInt_natCast, BitVec.toNat_ofNat, BitVec.toNat_ofNat, Nat.mod_eq_of_lt (by omega), Nat.mod_eq_of_lt (by omega)]
 show IntKind.i64.wrap ((BitVec.ofInt 64 (a : Int) ||| BitVec.ofInt 64 (b : Int)).toNat : Int) = _
 rw [e, ← wrapF_eq, wrap64_in (by omega) (by omega)]
theorem and64 {a b : Nat} (ha : a < 65536) (hb : b < 65536) : bitO .and .i64 (a : Int) (b : Int) = ((a &&& b : Nat) : Int) := by
 have hlt : a &&& b < 65536 := Nat.lt_of_le_of_lt Nat.and_le_left ha
 unfold bitO
 have e : (BitVec.ofInt 64 (a : Int) &&& BitVec.ofInt 64 (b : Int)).toNat = a &&& b := by
  rw [BitVec.toNat_and, BitVec.ofInt_natCast, BitVec.ofInt_natCast, BitVec.toNat_ofNat, BitVec.toNat_ofNat, Nat.mod_eq_of_lt (by omega), Nat.mod_eq_of_lt (by omega)]
 show IntKind.i64.wrap ((BitVec.ofInt 64 (a : Int) &&& BitVec.ofInt 64 (b : Int)).toNat : Int) = _
 rw [e, ← wrapF_eq, wrap64_in (by omega) (by omega)]
def shlOk : Bool := (List.range 16).all fun k => shlF .i64 1 (k : Int) == ((2 ^ k : Nat) : Int)
theorem shlOk_t : shlOk = true := by kernel_rfl
theorem shl64 {k : Nat} (hk : k < 16) : shlF .i64 1 (k : Int) = ((2 ^ k : Nat) : Int) := by
 have h := shlOk_t
 unfold shlOk at h
 rw [List.all_eq_true] at h
 exact beq_iff_eq.1 (h k (List.mem_range.2 hk))
def shrOk : Bool := (List.range 256).all fun x => (List.range 8).all fun k => (bitO .and .i64 (shrF .i64 (x : Int) (k : Int)) 1 == 1) == x.testBit k
theorem shrOk_t : shrOk = true := by kernel_rfl
theorem shr64 {x k : Nat} (hx : x < 256) (hk : k < 8) : (bitO .and .i64 (shrF .i64 (x : Int) (k : Int)) 1 == 1) = x.testBit k := by
 have h := shrOk_t
 unfold shrOk at h
 rw [List.all_eq_true] at h
 have h := h x (List.mem_range.2 hx)
 rw [List.all_eq_true] at h
 exact beq_iff_eq.1 (h k (List.mem_range.2 hk))
def ChSpec (srv : List Nat → Bool) (n : Nat) (L : List Nat) (a left : Nat) (r : Option (List Int)) : Prop :=
 (r = none ∧ ∀ C, Inc n a C → C.length = left → srv (L ++ C) = false) ∨
 ∃ C, r = some (castL (L ++ C)) ∧ Inc n a C ∧ C.length = left ∧ srv (L ++ C) = true ∧ ∀ D, Inc n a D → D.length = left → srv (L ++ D) = true → lxN C D = true
theorem choose_v {f : Nat} {sees : List Int} {n : Nat} (hn : n ≤ 8) (hf : 100 ≤ f) (srv : List Nat → Bool)
  (hcf : ∀ L : List Nat, (∀ k ∈ L, k < n) → slices_ContainsFunc_int_int_of_plan_Control_1_1 f sees (maskL L : Nat) = some (!srv L)) :
  ∀ (left d : Nat) (L : List Nat) (a : Nat), left < d → (∀ k ∈ L, k < n) → L.length + left ≤ 100 → a ≤ n → Ok (plan_choose f sees (n : Int) d (castL L) ((maskL L : Nat) : Int) (a : Int) (left : Int)) (ChSpec srv n L a left)
 | _, 0, _, _, h, _, _, _ => by omega
 | 0, d + 1, L, a, hd, hL, hl, ha => by
  unfold plan_choose
  refine Ok.gd (decide_eq_true (by rw [castL_len]; omega)) (Ok.cd (fun _ => Ok.bde (hcf L hL) (Ok.cd (fun h => ok_some.2 (.inl ⟨rfl, fun C hC e => ?_⟩)) (fun h => ok_some.2 (.inr ⟨[], by simp, trivial, rfl, by simpa using h, fun D _ _ _ => rfl⟩)))) (fun h => by simp at h))
  obtain rfl := List.length_eq_zero_iff.1 e
  simpa using h
 | left + 1, d + 1, L, a, hd, hL, hl, ha => by
  unfold plan_choose
  refine Ok.gd (decide_eq_true (by rw [castL_len]; omega)) (Ok.cd (fun h => by simp at h; omega) (fun _ => ?_))
  refine ok_loop (fun x : Int => ∃ i : Nat, x = (i : Int) ∧ a ≤ i ∧ i ≤ n ∧ ∀ k C, k < i → Inc n a (k :: C) → C.length = left → srv (L ++ k :: C) = false) (fun x => n + 1 - x.toNat) ?_ f (a : Int) ⟨a, rfl, Nat.le_refl _, ha, fun k C hk hC => by have := hC.1; omega⟩ (by simp; omega)
  rintro again x ⟨i, rfl, hai, hin, hno⟩ ih
  rw [wrap64_in (n := (i : Int) + ((left + 1 : Nat) : Int)) (by omega) (by omega)]
  refine Ok.cd (fun h => ?_) (fun h => ok_some.2 (.inl ⟨rfl, fun C hC e => ?_⟩))
  · have h := of_decide_eq_true h
    have hi : i < n := by omega
    have hL' : ∀ k ∈ L ++ [i], k < n := fun k hk => by
     rcases List.mem_append.1 hk with hk | hk
     · exact hL k hk
     · obtain rfl : k = i := by simpa using hk
       exact hi
    have hb : (2 : Nat) ^ n ≤ 2 ^ 8 := Nat.pow_le_pow_right (by omega) hn
    have hm := maskL_lt hL
    have hp : (2 : Nat) ^ i < 2 ^ n := Nat.pow_lt_pow_right (by omega) hi
    refine Ok.gd (decide_eq_true (by omega)) ?_
    rw [← castL_snoc, shl64 (by omega), or64 (by omega) (by omega), ← maskL_snoc, wrap64_in (n := (i : Int) + 1) (by omega) (by omega), wrap64_in (n := ((left + 1 : Nat) : Int) - 1) (by omega) (by omega), show (i : Int) + 1 = ((i + 1 : Nat) : Int) by omega, show ((left + 1 : Nat) : Int) - 1 = (left : Int) by omega]
    refine Ok.bd (choose_v hn hf srv hcf left d (L ++ [i]) (i + 1) (by omega) hL' (by simp; omega) (by omega)) ?_
    rintro r (⟨rfl, hr⟩ | ⟨C, rfl, hC, e, hs, hmin⟩)
    · refine Ok.cd (fun _ => ih _ ⟨i + 1, rfl, by omega, by omega, fun k C hk hC e => ?_⟩ (by simp; omega)) (fun h => by cases h)
      by_cases hki : k = i
      · subst hki
        have := hr C hC.2.2 e
        rwa [List.append_assoc] at this
      · exact hno k C (by omega) hC e
    · rw [List.append_assoc] at hs
      refine Ok.cd (fun h => by cases h) (fun _ => ok_some.2 (.inr ⟨i :: C, by rw [List.append_assoc]; rfl, ⟨hai, hi, hC⟩, by simp [e], hs, fun D hD eD hsD => ?_⟩))
      cases D with
      | nil => cases eD
      | cons k D =>
       have eD : D.length = left := by simpa using eD
       rcases Nat.lt_trichotomy k i with hk | rfl | hk
       · rw [hno k D hk hD eD] at hsD; cases hsD
       · exact lxN_cons.2 (.inr ⟨rfl, hmin D hD.2.2 eD (by rw [List.append_assoc]; exact hsD)⟩)
       · exact lxN_cons.2 (.inl hk)
  · have h := of_decide_eq_false h
    cases C with
    | nil => cases e
    | cons k C =>
     have e : C.length = left := by simpa using e
     by_cases hki : k < i
     · exact hno k C hki hC e
     · have := hC.2.2.len hC.2.1
       omega
end Go.L

