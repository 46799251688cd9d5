import Derived.Test.YtlpfiiejhikalaaGreatTrkLD
import Derived.Test.YtlpfiiejhikalaaGreatPl2Trks
import Derived.KernelRfl
set_option linter.all false
namespace Go.L
open Go Go.Eng
def nA : Nat := 6148914691236517205
def iQ : Nat := 3689348814741910323
def pQ : Nat := 1085102592571150095
theorem sN {m s y : Nat} (hm : ∀ j, j < 64 -> m.testBit j = true \/ (s <= j /\ m.testBit (j - s) = true)) (hy : y < 2 ^ 64) (h1 : y &&& m = 0) (h2 : (y / 2 ^ s) &&& m = 0) : y = 0 := by
 apply Nat.eq_of_testBit_eq
 intro j
 rw [Nat.zero_testBit]
 by_cases hj : j < 64
 · rcases hm j hj with h | ⟨h, h'⟩
   · have := congrArg (fun z => Nat.testBit z j) h1
     simpa [Nat.testBit_and, h] using this
   · have := congrArg (fun z => Nat.testBit z (j - s)) h2
     simp only [Nat.testBit_and, h', Bool.and_true, Nat.zero_testBit, Nat.testBit_div_two_pow] at this
     rwa [show j - s + s = j by omega] at this
 · exact Nat.testBit_lt_two_pow (Nat.lt_of_lt_of_le hy (Nat.pow_le_pow_right (by decide) (by omega)))
theorem uv {m s : Nat} (h : (List.range 64).all (fun j => m.testBit j || (decide (s <= j) && m.testBit (j - s))) = true) : ∀ j, j < 64 -> m.testBit j = true \/ (s <= j /\ m.testBit (j - s) = true) := fun j hj => by
 have := List.all_eq_true.1 h j (by simpa using hj)
 simpa using this
theorem yc : ∀ j, j < 64 -> nA.testBit j = true \/ (1 <= j /\ nA.testBit (j - 1) = true) := uv (by kernel_rfl)
theorem xW : ∀ j, j < 64 -> iQ.testBit j = true \/ (2 <= j /\ iQ.testBit (j - 2) = true) := uv (by kernel_rfl)
theorem wL (y m k : Nat) (e : Nat) : (y &&& m) / 2 ^ k % 2 ^ e = (y / 2 ^ k % 2 ^ e) &&& (m / 2 ^ k % 2 ^ e) := by
 rw [Nat.and_div_two_pow, Nat.and_mod_two_pow]
theorem Ef (y k : Nat) (h : iQ / 2 ^ k % 2 ^ 4 = 3) : (y &&& iQ) / 2 ^ k % 2 ^ 4 <= 3 := by
 rw [wL, h]; exact Nat.and_le_right
theorem D6 (y k : Nat) (h : pQ / 2 ^ k % 2 ^ 8 = 15) : (y &&& pQ) / 2 ^ k % 2 ^ 8 = y / 2 ^ k % 16 := by
 rw [wL, h, show (15 : Nat) = 2 ^ 4 - 1 by rfl, Nat.and_two_pow_sub_one_eq_mod, Nat.mod_mod_of_dvd _ (by decide : (2 ^ 4 : Nat) ∣ 2 ^ 8)]
theorem j6 (y m : Nat) : y &&& m <= m := Nat.and_le_right
def lp (x : Nat) : Nat := ((x / 2 ^ 1) &&& nA) + (x &&& nA)
def eT (x : Nat) : Nat := ((x / 2 ^ 2) &&& iQ) + (x &&& iQ)
def gV (x : Nat) : Nat := (x / 2 ^ 4 + x) &&& pQ
def kR (x : Nat) : Nat := (x + x / 2 ^ 8) + (x + x / 2 ^ 8) / 2 ^ 16
def ln (x : Nat) : Nat := x + x / 2 ^ 32
theorem vf (x : Nat) : lp x <= 12297829382473034410 := by
 have h1 := j6 (x / 2 ^ 1) nA; have h2 := j6 x nA
 simp only [lp, nA] at *; omega
theorem yQ (x : Nat) : eT x <= 7378697629483820646 := by
 have h1 := j6 (x / 2 ^ 2) iQ; have h2 := j6 x iQ
 simp only [eT, iQ] at *; omega
theorem rp (x : Nat) : gV x <= 1085102592571150095 := j6 _ pQ
def c8 (n i : Nat) : Nat := n / 256 ^ i % 256
theorem iw (n k i : Nat) : c8 (n / 256 ^ k) i = c8 n (k + i) := by unfold c8; rw [Nat.div_div_eq_div_mul, <- Nat.pow_add]
theorem mI : ∀ (i a b : Nat), (∀ j, j <= i -> c8 a j + c8 b j <= 255) -> c8 (a + b) i = c8 a i + c8 b i
 | 0, a, b, h => by
  have := h 0 (Nat.le_refl _)
  simp only [c8, Nat.pow_zero, Nat.div_one] at *
  omega
 | i + 1, a, b, h => by
  have h0 := h 0 (Nat.zero_le _)
  simp only [c8, Nat.pow_zero, Nat.div_one] at h0
  have e : (a + b) / 256 = a / 256 + b / 256 := by omega
  have ih := mI i (a / 256) (b / 256) fun j hj => by
   have := h (j + 1) (by omega)
   have e1 := iw a 1 j; have e2 := iw b 1 j
   rw [Nat.pow_one] at e1 e2
   rw [e1, e2, Nat.add_comm 1 j]; exact this
  have e1 := iw a 1 i; have e2 := iw b 1 i; have e3 := iw (a + b) 1 i
  rw [Nat.pow_one] at e1 e2 e3
  rw [e1, e2, <- e, e3, Nat.add_comm 1 i] at ih
  exact ih
theorem xY {w : Nat} (h : ∀ i, c8 w i <= 15) : ln (kR w) % 256 = c8 w 0 + c8 w 1 + c8 w 2 + c8 w 3 + c8 w 4 + c8 w 5 + c8 w 6 + c8 w 7 := by
 obtain ⟨y, hy⟩ : ∃ y, w + w / 2 ^ 8 = y := ⟨_, rfl⟩
 have by1 : ∀ i, c8 y i = c8 w i + c8 w (1 + i) := fun i => by
  have e := iw w 1
  have : w / 2 ^ 8 = w / 256 ^ 1 := by rw [show (2 : Nat) ^ 8 = 256 ^ 1 by decide]
  rw [<- hy, this, mI i _ _ (fun j _ => by rw [e]; have := h j; have := h (1 + j); omega), e]
 obtain ⟨z, hz⟩ : ∃ z, y + y / 2 ^ 16 = z := ⟨_, rfl⟩
 have bz : ∀ i, c8 z i = c8 y i + c8 y (2 + i) := fun i => by
  have e := iw y 2
  have : y / 2 ^ 16 = y / 256 ^ 2 := by rw [show (2 : Nat) ^ 16 = 256 ^ 2 by decide]
  rw [<- hz, this, mI i _ _ (fun j _ => by rw [e, by1, by1]; have := h j; have := h (1 + j); have := h (2 + j); have := h (1 + (2 + j)); omega), e]
 have bu : c8 (z + z / 2 ^ 32) 0 = c8 z 0 + c8 z 4 := by
  have e := iw z 4
  have : z / 2 ^ 32 = z / 256 ^ 4 := by rw [show (2 : Nat) ^ 32 = 256 ^ 4 by decide]
  rw [this, mI 0 _ _ (fun j _ => by rw [e, bz, bz, by1, by1, by1, by1]; have := h j; have := h (1 + j); have := h (2 + j); have := h (1 + (2 + j)); have := h (4 + j); have := h (1 + (4 + j)); have := h (2 + (4 + j)); have := h (1 + (2 + (4 + j))); omega), e]
 have e4 : ln (kR w) = z + z / 2 ^ 32 := by unfold kR ln; rw [hy, hz]
 have e0 : ln (kR w) % 256 = c8 (z + z / 2 ^ 32) 0 := by rw [e4]; simp [c8]
 rw [e0, bu, bz, bz, by1, by1, by1, by1]
 simp only [Nat.reduceAdd]
 omega
theorem rH (x i : Nat) (hi : i < 8) : c8 (gV x) i = (x / 16 + x) / 256 ^ i % 16 := by
 have e : (256 : Nat) ^ i = 2 ^ (8 * i) := by rw [Nat.pow_mul]
 have h : pQ / 2 ^ (8 * i) % 2 ^ 8 = 15 := by
  have : (List.range 8).all (fun i => pQ / 2 ^ (8 * i) % 2 ^ 8 == 15) = true := by kernel_rfl
  have := List.all_eq_true.1 this i (by simpa using hi)
  simpa using this
 unfold c8 gV
 rw [e]
 exact D6 _ _ h
theorem ue (x i : Nat) (hi : 8 <= i) : c8 (gV x) i = 0 := by
 have := rp x
 unfold c8
 rw [Nat.div_eq_of_lt]
 exact Nat.lt_of_lt_of_le (Nat.lt_of_le_of_lt this (by decide : 1085102592571150095 < 256 ^ 8)) (Nat.pow_le_pow_right (by decide) hi)
theorem iO (x i : Nat) : c8 (gV x) i <= 15 := by
 by_cases hi : i < 8
 · rw [rH x i hi]; omega
 · rw [ue x i (by omega)]; omega
theorem yu (x : Nat) : ln (kR (gV x)) < 2 ^ 63 := by
 have h := rp x
 obtain ⟨w, hw⟩ : ∃ w, gV x = w := ⟨_, rfl⟩
 rw [hw] at h ⊢
 obtain ⟨y, hy⟩ : ∃ y, w + w / 2 ^ 8 = y := ⟨_, rfl⟩
 have hy' : y <= 1100000000000000000 := by omega
 obtain ⟨z, hz⟩ : ∃ z, y + y / 2 ^ 16 = z := ⟨_, rfl⟩
 have hz' : z <= 1100020000000000000 := by omega
 have e4 : ln (kR w) = z + z / 2 ^ 32 := by unfold kR ln; rw [hy, hz]
 rw [e4]; omega
theorem zq {A B : Nat} (h1 : A % 16 <= 3) (h2 : A / 16 % 16 <= 3) (h3 : B % 16 <= 3) (h4 : B / 16 % 16 <= 3) (h5 : ((A + B) / 16 + (A + B)) % 16 = 0) : A % 256 = 0 /\ B % 256 = 0 := by
 obtain ⟨a, ha⟩ : ∃ a, A / 256 = a := ⟨_, rfl⟩
 obtain ⟨b, hb⟩ : ∃ b, B / 256 = b := ⟨_, rfl⟩
 obtain ⟨a0, ha0⟩ : ∃ x, A % 16 = x := ⟨_, rfl⟩
 obtain ⟨a1, ha1⟩ : ∃ x, A / 16 % 16 = x := ⟨_, rfl⟩
 obtain ⟨b0, hb0⟩ : ∃ x, B % 16 = x := ⟨_, rfl⟩
 obtain ⟨b1, hb1⟩ : ∃ x, B / 16 % 16 = x := ⟨_, rfl⟩
 have eA : A = a0 + 16 * a1 + 256 * a := by omega
 have eB : B = b0 + 16 * b1 + 256 * b := by omega
 rw [ha0] at h1; rw [ha1] at h2; rw [hb0] at h3; rw [hb1] at h4
 clear ha hb ha0 ha1 hb0 hb1
 subst eA eB
 have e : (a0 + 16 * a1 + 256 * a + (b0 + 16 * b1 + 256 * b)) / 16 = (a1 + b1) + 16 * (a + b) := by omega
 rw [e] at h5
 have e2 : a1 + b1 + 16 * (a + b) + (a0 + 16 * a1 + 256 * a + (b0 + 16 * b1 + 256 * b)) = (a0 + b0 + a1 + b1) + 16 * (a + b + a1 + b1 + 16 * a + 16 * b) := by omega
 rw [e2, Nat.add_mul_mod_self_left] at h5
 clear e e2
 have : a0 + b0 + a1 + b1 = 0 := by omega
 have z0 : a0 = 0 := by omega
 have z1 : a1 = 0 := by omega
 have z2 : b0 = 0 := by omega
 have z3 : b1 = 0 := by omega
 subst z0 z1 z2 z3
 omega
theorem si : ∀ (k A B : Nat), A < 256 ^ k -> B < 256 ^ k -> (∀ i, i < 2 * k -> A / 16 ^ i % 16 <= 3) -> (∀ i, i < 2 * k -> B / 16 ^ i % 16 <= 3) -> (∀ i, i < k -> ((A + B) / 16 + (A + B)) / 256 ^ i % 16 = 0) -> A = 0 /\ B = 0
 | 0, A, B, hA, hB, _, _, _ => by simp at hA hB; exact ⟨hA, hB⟩
 | k + 1, A, B, hA, hB, a, b, z => by
  have a0 := a 0 (by omega); have a1 := a 1 (by omega); have b0 := b 0 (by omega); have b1 := b 1 (by omega); have z0 := z 0 (by omega)
  simp only [Nat.pow_zero, Nat.div_one, Nat.pow_one] at a0 a1 b0 b1 z0
  obtain ⟨ha, hb⟩ := zq a0 a1 b0 b1 z0
  have ih := si k (A / 256) (B / 256) (by rw [Nat.pow_succ] at hA; exact Nat.div_lt_of_lt_mul (by rwa [Nat.mul_comm] at hA)) (by rw [Nat.pow_succ] at hB; exact Nat.div_lt_of_lt_mul (by rwa [Nat.mul_comm] at hB))
   (fun i hi => by have := a (i + 2) (by omega); rwa [Nat.pow_add, Nat.mul_comm (16 ^ i), <- Nat.div_div_eq_div_mul] at this)
   (fun i hi => by have := b (i + 2) (by omega); rwa [Nat.pow_add, Nat.mul_comm (16 ^ i), <- Nat.div_div_eq_div_mul] at this)
   (fun i hi => by
    have := z (i + 1) (by omega)
    rw [Nat.pow_succ, Nat.mul_comm (256 ^ i), <- Nat.div_div_eq_div_mul] at this
    have e : ((A + B) / 16 + (A + B)) / 256 = (A / 256 + B / 256) / 16 + (A / 256 + B / 256) := by omega
    rwa [e] at this)
  omega
theorem uK (y i : Nat) (hi : i < 16) : (y &&& iQ) / 16 ^ i % 16 <= 3 := by
 have e : (16 : Nat) ^ i = 2 ^ (4 * i) := by rw [Nat.pow_mul]
 have h : iQ / 2 ^ (4 * i) % 2 ^ 4 = 3 := by
  have : (List.range 16).all (fun i => iQ / 2 ^ (4 * i) % 2 ^ 4 == 3) = true := by kernel_rfl
  have := List.all_eq_true.1 this i (by simpa using hi)
  simpa using this
 rw [e]
 exact Ef _ _ h
theorem xX {x : Nat} (hx : x < 2 ^ 64) (h : ln (kR (gV (eT (lp x)))) % 128 = 0) : x = 0 := by
 have h1 := vf x
 obtain ⟨w, hw⟩ : ∃ w, lp x = w := ⟨_, rfl⟩
 rw [hw] at h h1
 have hs := xY (iO (eT w))
 have h256 : c8 (gV (eT w)) 0 + c8 (gV (eT w)) 1 + c8 (gV (eT w)) 2 + c8 (gV (eT w)) 3 + c8 (gV (eT w)) 4 + c8 (gV (eT w)) 5 + c8 (gV (eT w)) 6 + c8 (gV (eT w)) 7 = 0 := by
  have := iO (eT w) 0; have := iO (eT w) 1; have := iO (eT w) 2; have := iO (eT w) 3; have := iO (eT w) 4; have := iO (eT w) 5; have := iO (eT w) 6; have := iO (eT w) 7
  generalize ln (kR (gV (eT w))) = u at *
  omega
 have hb : ∀ i, i < 8 -> (eT w / 16 + eT w) / 256 ^ i % 16 = 0 := fun i hi => by
  rw [<- rH _ i hi]
  rcases i with _ | _ | _ | _ | _ | _ | _ | _ | i <;> (try simp only [Nat.zero_add, Nat.reduceAdd]) <;> omega
 have hA := j6 (w / 2 ^ 2) iQ
 have hB := j6 w iQ
 obtain ⟨zA, zB⟩ := si 8 ((w / 2 ^ 2) &&& iQ) (w &&& iQ) (Nat.lt_of_le_of_lt hA (by decide)) (Nat.lt_of_le_of_lt hB (by decide)) (fun i hi => uK _ i hi) (fun i hi => uK _ i hi) hb
 have w0 : w = 0 := sN xW (Nat.lt_of_le_of_lt h1 (by decide)) zB zA
 rw [w0] at hw
 unfold lp at hw
 exact sN yc hx (by omega) (by omega)
theorem kZ (x k : Nat) : ((x : Int).fdiv (2 ^ k)) = ((x / 2 ^ k : Nat) : Int) := by
 rw [Int.fdiv_eq_ediv_of_nonneg _ (by exact Int.le_of_lt (Int.pow_pos (by decide)))]
 simp
theorem oR {x y : Nat} (hx : x < 2 ^ 64) (hy : y < 2 ^ 64) : b7 .and .u64 x y = ((x &&& y : Nat) : Int) := by
 have h : x &&& y < 2 ^ 64 := Nat.lt_of_le_of_lt Nat.and_le_left hx
 show IntKind.u64.wrap _ = _
 rw [<- fh]
 have e : (BitVec.ofInt IntKind.u64.bits (x : Int) &&& BitVec.ofInt IntKind.u64.bits (y : Int)).toNat = x &&& y := by
  show (BitVec.ofInt 64 (x : Int) &&& BitVec.ofInt 64 (y : Int)).toNat = x &&& y
  rw [BitVec.toNat_and, BitVec.ofInt_natCast, BitVec.ofInt_natCast, BitVec.toNat_ofNat, BitVec.toNat_ofNat, Nat.mod_eq_of_lt hx, Nat.mod_eq_of_lt hy]
 rw [e]
 exact dJ (by omega) (by omega)
theorem An {x y : Nat} (hx : x < 2 ^ 64) (hy : y < 2 ^ 64) : b7 .xor .u64 x y = ((x ^^^ y : Nat) : Int) := by
 have h : x ^^^ y < 2 ^ 64 := Nat.xor_lt_two_pow hx hy
 show IntKind.u64.wrap _ = _
 rw [<- fh]
 have e : (BitVec.ofInt IntKind.u64.bits (x : Int) ^^^ BitVec.ofInt IntKind.u64.bits (y : Int)).toNat = x ^^^ y := by
  show (BitVec.ofInt 64 (x : Int) ^^^ BitVec.ofInt 64 (y : Int)).toNat = x ^^^ y
  rw [BitVec.toNat_xor, BitVec.ofInt_natCast, BitVec.ofInt_natCast, BitVec.toNat_ofNat, BitVec.toNat_ofNat, Nat.mod_eq_of_lt hx, Nat.mod_eq_of_lt hy]
 rw [e]
 exact dJ (by omega) (by omega)
theorem xQ {x : Nat} (hx : x < 2 ^ 63) : b7 .and .i64 x 127 = ((x % 128 : Nat) : Int) := by
 show IntKind.i64.wrap _ = _
 rw [<- fh]
 have e : (BitVec.ofInt IntKind.i64.bits (x : Int) &&& BitVec.ofInt IntKind.i64.bits (127 : Int)).toNat = x % 128 := by
  show (BitVec.ofInt 64 (x : Int) &&& BitVec.ofInt 64 ((127 : Nat) : Int)).toNat = x % 128
  rw [BitVec.toNat_and, BitVec.ofInt_natCast, BitVec.ofInt_natCast, BitVec.toNat_ofNat, BitVec.toNat_ofNat, Nat.mod_eq_of_lt (by omega), Nat.mod_eq_of_lt (by decide), show (127 : Nat) = 2 ^ 7 - 1 by rfl, Nat.and_two_pow_sub_one_eq_mod]
 rw [e]
 exact wrap64_in (by omega) (by omega)
theorem tx {α β : Type} {x : α} {f : α -> Option β} : bdO (some x) f = f x := rfl
theorem Ak (n : Nat) {x : Nat} (hx : x < 2 ^ 64) : dH n x = some ((ln (kR (gV (eT (lp x)))) % 128 : Nat) : Int) := by
 have l1 := vf x
 have l2 := yQ (lp x)
 have l3 := rp (eT (lp x))
 have l5 := yu (eT (lp x))
 have e1 : ae .u64 ((b7 .and .u64 ((x : Int).fdiv (2 ^ 1)) 6148914691236517205) + (b7 .and .u64 (x : Int) 6148914691236517205)) = (lp x : Int) := by
  have a1 := oR (x := x / 2 ^ 1) (y := nA) (by omega) (by decide)
  have a2 := oR (x := x) (y := nA) hx (by decide)
  rw [show ((nA : Nat) : Int) = 6148914691236517205 by rfl] at a1 a2
  rw [kZ, a1, a2]
  unfold lp at *
  rw [dJ (by omega) (by omega)]; omega
 generalize lp x = y at *
 have e2 : ae .u64 ((b7 .and .u64 ((y : Int).fdiv (2 ^ 2)) 3689348814741910323) + (b7 .and .u64 (y : Int) 3689348814741910323)) = (eT y : Int) := by
  have a1 := oR (x := y / 2 ^ 2) (y := iQ) (by omega) (by decide)
  have a2 := oR (x := y) (y := iQ) (by omega) (by decide)
  rw [show ((iQ : Nat) : Int) = 3689348814741910323 by rfl] at a1 a2
  rw [kZ, a1, a2]
  unfold eT at *
  rw [dJ (by omega) (by omega)]; omega
 generalize eT y = z at *
 have e3 : b7 .and .u64 (ae .u64 (((z : Int).fdiv (2 ^ 4)) + (z : Int))) 1085102592571150095 = (gV z : Int) := by
  rw [kZ, dJ (by omega) (by omega)]
  have a1 := oR (x := z / 2 ^ 4 + z) (y := pQ) (by omega) (by decide)
  rw [show ((pQ : Nat) : Int) = 1085102592571150095 by rfl] at a1
  rw [show ((z / 2 ^ 4 : Nat) : Int) + (z : Int) = ((z / 2 ^ 4 + z : Nat) : Int) by omega, a1]
  rfl
 generalize gV z = w at *
 obtain ⟨q, hq⟩ : ∃ q, w + w / 2 ^ 8 = q := ⟨_, rfl⟩
 have e4 : ae .u64 ((w : Int) + ((w : Int).fdiv (2 ^ 8))) = (q : Int) := by
  rw [kZ, dJ (by omega) (by omega)]; omega
 obtain ⟨s, hs⟩ : ∃ s, q + q / 2 ^ 16 = s := ⟨_, rfl⟩
 have e5 : ae .u64 ((q : Int) + ((q : Int).fdiv (2 ^ 16))) = (s : Int) := by
  rw [kZ, dJ (by omega) (by omega)]; omega
 have e6 : ae .u64 ((s : Int) + ((s : Int).fdiv (2 ^ 32))) = ((s + s / 2 ^ 32 : Nat) : Int) := by
  rw [kZ, dJ (by omega) (by omega)]; omega
 have e7 : ln (kR w) = s + s / 2 ^ 32 := by unfold kR ln; rw [hq, hs]
 rw [e7] at l5 ⊢
 unfold dH
 rw [e1, tx, e2, tx, e3, tx, e4, e5, tx, e6, wrap64_in (by omega) (by omega), xQ l5]
theorem zC {a b : Nat} (h : a ^^^ b = 0) : a = b := by
 apply Nat.eq_of_testBit_eq
 intro j
 have := congrArg (fun z => Nat.testBit z j) h
 simp only [Nat.testBit_xor, Nat.zero_testBit] at this
 revert this
 cases a.testBit j <;> cases b.testBit j <;> simp
theorem BH (n : Nat) {a b : Int} (ha : 0 <= a) (ha' : a < 18446744073709551616) (hb : 0 <= b) (hb' : b < 18446744073709551616) : ∃ d : Int, cA n a b = some d /\ 0 <= d /\ d < 128 /\ (d = 0 ↔ a = b) := by
 obtain ⟨a, rfl⟩ : ∃ m : Nat, a = m := ⟨a.toNat, by omega⟩
 obtain ⟨b, rfl⟩ : ∃ m : Nat, b = m := ⟨b.toNat, by omega⟩
 have hx : a ^^^ b < 2 ^ 64 := Nat.xor_lt_two_pow (by omega) (by omega)
 refine ⟨((ln (kR (gV (eT (lp (a ^^^ b))))) % 128 : Nat) : Int), ?_, by omega, by omega, fun h => ?_, fun h => ?_⟩
 · unfold cA
   rw [An (by omega) (by omega), Ak n hx]
   rfl
 · have := xX hx (by omega)
   have := zC this
   omega
 · have : a = b := by omega
   subst this
   rw [Nat.xor_self]
   rfl
end Go.L

