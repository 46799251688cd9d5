import Derived.Test.YtlpfiiejhikalaaGreatTrkL11f
import Derived.Test.YtlpfiiejhikalaaGreatTrkL11c
set_option linter.all false
namespace Go.L
open Go Go.Eng
def wA (r : ak) (w h : Nat) (x y wd ht : Int) : Option Int :=
 if 0 <= x /\ 0 <= y /\ x + wd <= w /\ y + ht <= h then some (gi r w (y + ht).toNat (x + wd).toNat - gi r w y.toNat (x + wd).toNat - gi r w (y + ht).toNat x.toNat + gi r w y.toNat x.toNat) else none
section
variable {r : ak} {w h : Nat}
theorem yf {n : Nat} {t : List (List Int)} (hT : rm r w h t) (h9 : h <= 9) (hn : 100 < n) : bp n t t = some false := by
 apply Ok.eq
 unfold bp
 refine Ok.bd (R := fun i : Int => i = -1) ?_ (by rintro _ rfl; exact aw.2 (by decide))
 unfold bW
 have hl := hT.len
 refine Ok.bd (R := fun o : Sum Unit Int => match o with | .inl _ => True | .inr c => False) ?_ (by
  rintro (_ | c) h0
  · exact aw.2 rfl
  · exact h0.elim)
 refine bI (fun x : Int => ∃ m : Nat, x = m /\ m <= h + 1) (fun x => h + 1 - x.toNat) ?_ n 0 ⟨0, rfl, Nat.zero_le _⟩ (by first | omega | (dsimp only; omega))
 rintro again x ⟨m, rfl, hm⟩ ih
 refine Ok.cd (fun hc => ?_) (fun hc => aw.2 trivial)
 have hlt : m < h + 1 := by have := dcT hc; omega
 refine Ok.gd (by rw [aJ]; exact decide_eq_true (by omega)) ?_
 refine Ok.bd (R := fun b => b = false) (by
  unfold jJ
  refine Ok.gd (by rw [show (0 : Int) = ((0 : Nat) : Int) by rfl, aJ]; exact decide_eq_true (by omega)) (aw.2 ?_)
  have h1 := hT.row m (by omega); have h2 := hT.row 0 (by omega)
  rw [h1, show (0 : Int) = ((0 : Nat) : Int) by rfl, h2]
  simp) ?_
 rintro _ rfl
 refine Ok.cd (fun h => by cases h) (fun _ => ?_)
 rw [wrap64_in (by omega) (by omega)]
 exact ih _ ⟨m + 1, by omega, by omega⟩ (by first | omega | (dsimp only; omega))
theorem Cd {n : Nat} {t : List (List Int)} (hr : jZ r w h) (hT : rm r w h t) (hn : 100 < n) {x y wd ht : Int} (hx : -100 <= x /\ x <= 100) (hy : -100 <= y /\ y <= 100) (hwd : 1 <= wd /\ wd <= 8) (hht : 1 <= ht /\ ht <= 8) :
  jY n t x y wd ht = some (match wA r w h x y wd ht with | some v => (v, 0) | none => (0, 2)) := by
 have w9 := hr.w9; have h9 := hr.h9; have hl := hT.len
 have no : ¬ (0 <= x /\ 0 <= y /\ x + wd <= w /\ y + ht <= h) -> (match wA r w h x y wd ht with | some v => (v, 0) | none => (0, 2)) = ((0, 2) : Int × Int) := fun hno => by
  unfold wA; rw [if_neg hno]
 apply Ok.eq
 unfold jY
 rw [hl]
 refine Ok.cd (fun h => by simp at h; omega) (fun _ => ?_)
 refine Ok.gd (by rw [show (0 : Int) = ((0 : Nat) : Int) by rfl, aJ]; exact decide_eq_true (by omega)) ?_
 have r0 := hT.row 0 (by omega)
 rw [show ((0 : Nat) : Int) = (0 : Int) by rfl] at r0
 rw [r0]
 refine Ok.cd (fun h => by simp at h; omega) (fun _ => ?_)
 refine Ok.bde (yf hT h9 hn) ?_
 refine Ok.cd (fun h => by cases h) (fun _ => ?_)
 have e1 : Ew (((w + 1 : Nat) : Int) - 1) = (w : Int) := by rw [wrap64_in (by omega) (by omega)]; omega
 have e2 : Ew (((h + 1 : Nat) : Int) - 1) = (h : Int) := by rw [wrap64_in (by omega) (by omega)]; omega
 rw [e1, e2, qv, qv, qv, wrap64_in (n := (w : Int) - x) (by omega) (by omega), wrap64_in (n := (h : Int) - y) (by omega) (by omega), wrap64_in (n := y + ht) (by omega) (by omega), wrap64_in (n := x + wd) (by omega) (by omega)]
 clear e1 e2
 refine Ok.cd (fun h => aw.2 ?_) (fun c1 => ?_)
 · have := dcT h; rw [no (by omega)]
 refine Ok.cd (fun h => aw.2 ?_) (fun c2 => ?_)
 · have := dcT h; rw [no (by omega)]
 refine Ok.cd (fun h => aw.2 ?_) (fun c3 => ?_)
 · have := dcT h; rw [no (by omega)]
 refine Ok.cd (fun h => aw.2 ?_) (fun c4 => ?_)
 · have := dcT h; rw [no (by omega)]
 refine Ok.cd (fun h => aw.2 ?_) (fun c5 => ?_)
 · have := dcT h; rw [no (by omega)]
 have c1 := dcF c1; have c2 := dcF c2; have c3 := dcF c3; have c4 := dcF c4; have c5 := dcF c5
 have yes : 0 <= x /\ 0 <= y /\ x + wd <= w /\ y + ht <= h := by omega
 obtain ⟨X, rfl⟩ : ∃ X : Nat, x = X := ⟨x.toNat, by omega⟩
 obtain ⟨Y, rfl⟩ : ∃ Y : Nat, y = Y := ⟨y.toNat, by omega⟩
 obtain ⟨A, rfl⟩ : ∃ A : Nat, wd = A := ⟨wd.toNat, by omega⟩
 obtain ⟨B, rfl⟩ : ∃ B : Nat, ht = B := ⟨ht.toNat, by omega⟩
 clear c1 c2 c3 c4 c5 no
 unfold wA
 rw [if_pos yes]
 rw [<- Int.natCast_add, <- Int.natCast_add]
 simp only [Int.toNat_natCast]
 have q1 := hT.row (Y + B) (by omega); have q2 := hT.row Y (by omega)
 refine Ok.gd (by rw [aJ]; exact decide_eq_true (by omega)) (Ok.gd (by rw [aJ, q1]; exact decide_eq_true (by omega)) (Ok.gd (by rw [aJ]; exact decide_eq_true (by omega)) ?_))
 refine Ok.gd (by rw [aJ, q2]; exact decide_eq_true (by omega)) (Ok.gd (by rw [aJ, q1]; exact decide_eq_true (by omega)) (Ok.gd (by rw [aJ, q2]; exact decide_eq_true (by omega)) (aw.2 ?_)))
 rw [hT.val (Y + B) (X + A) (by omega) (by omega), hT.val Y (X + A) (by omega) (by omega), hT.val (Y + B) X (by omega) (by omega), hT.val Y X (by omega) (by omega)]
 have b1 := kz hr (Y + B) (X + A) (by omega) (by omega); have b2 := kz hr Y (X + A) (by omega) (by omega); have b3 := kz hr (Y + B) X (by omega) (by omega); have b4 := kz hr Y X (by omega) (by omega)
 generalize gi r w (Y + B) (X + A) = s1 at *
 generalize gi r w Y (X + A) = s2 at *
 generalize gi r w (Y + B) X = s3 at *
 generalize gi r w Y X = s4 at *
 rw [wrap64_in (n := s1 - s2) (by omega) (by omega), wrap64_in (n := s1 - s2 - s3) (by omega) (by omega), wrap64_in (by omega) (by omega)]
end
def j9 (b : A4 Int) : Prop := (1 <= b.e2 /\ b.e2 <= 8) /\ (1 <= b.e3 /\ b.e3 <= 8) /\ (-16 <= b.e0 /\ b.e0 <= 16) /\ (-16 <= b.e1 /\ b.e1 <= 16)
def uR (p : List aj) : Prop := p.length <= 64 /\ ∀ t ∈ p, j9 t.A /\ j9 t.B
theorem A9 (n : Nat) (b : A4 Int) : Ok (dQ n b) (fun c => c = true -> j9 b) := by
 unfold dQ
 rw [qv, qv, zp]
 refine Ok.cd (fun _ => aw.2 fun h => by cases h) (fun c1 => ?_)
 refine Ok.cd (fun _ => aw.2 fun h => by cases h) (fun c2 => ?_)
 refine Ok.cd (fun _ => aw.2 fun h => by cases h) (fun c3 => ?_)
 have c1 := dcF c1; have c2 := dcF c2; have c3 := dcF c3
 rw [wrap64_in (by omega) (by omega), wrap64_in (by omega) (by omega)]
 refine Ok.cd (fun c4 => aw.2 fun h => ?_) (fun _ => aw.2 fun h => by cases h)
 have c4 := dcT c4; have h := dcT h
 unfold j9; omega
theorem CW {n : Nat} {p : List aj} (hn : 100 < n) : Ok (dL n p) (fun c => c = 0 -> uR p) := by
 unfold dL
 refine Ok.cd (fun _ => aw.2 fun h => by cases h) (fun c1 => ?_)
 refine Ok.cd (fun _ => aw.2 fun h => by cases h) (fun c2 => ?_)
 have c2 := dcF c2
 refine Ok.bd (R := fun b => b = false -> ∀ t ∈ p, j9 t.A /\ j9 t.B) ?_ (fun b hb => Ok.cd (fun _ => aw.2 fun h => by cases h) (fun h => aw.2 fun _ => ⟨by omega, hb h⟩))
 unfold aM
 refine Ok.bd (R := fun i : Int => i < 0 -> ∀ t ∈ p, j9 t.A /\ j9 t.B) ?_ (fun i hi => aw.2 fun h => hi (by have := dcF h; omega))
 unfold aQ
 refine Ok.bd (R := fun o : Sum Unit Int => match o with | .inl _ => ∀ t ∈ p, j9 t.A /\ j9 t.B | .inr c => 0 <= c) ?_ (by
  rintro (_ | c) h0
  · exact aw.2 fun _ => h0
  · exact aw.2 fun h => by have : (0 : Int) <= c := h0; omega)
 refine bI (fun x : Int => ∃ m : Nat, x = m /\ m <= p.length /\ ∀ j : Nat, j < m -> j9 (gt p (j : Int)).A /\ j9 (gt p (j : Int)).B) (fun x => p.length - x.toNat) ?_ n 0 ⟨0, rfl, Nat.zero_le _, fun j hj => by omega⟩ (by first | omega | (dsimp only; omega))
 rintro again x ⟨m, rfl, hm, hI⟩ ih
 refine Ok.cd (fun hc => ?_) (fun hc => ?_)
 · have hlt : m < p.length := by have := dcT hc; omega
   refine Ok.gd (by rw [aJ]; exact decide_eq_true hlt) ?_
   refine Ok.bd (R := fun b => b = false -> j9 (gt p (m : Int)).A /\ j9 (gt p (m : Int)).B) (by
    unfold fK
    refine Ok.bd (A9 n _) (fun a ha => ?_)
    refine Ok.cd (fun _ => aw.2 fun h => by cases h) (fun h => ?_)
    refine Ok.bd (A9 n _) (fun b hb => aw.2 fun h' => ⟨ha (by simpa using h), hb (by simpa using h')⟩)) ?_
   intro b hb
   refine Ok.cd (fun _ => aw.2 (show (0 : Int) <= m by omega)) (fun h => ?_)
   have ew : Ew ((m : Int) + 1) = ((m + 1 : Nat) : Int) := by rw [wrap64_in (by omega) (by omega)]; omega
   rw [ew]
   refine ih _ ⟨m + 1, rfl, by omega, fun j hj => ?_⟩ (by first | omega | (dsimp only; omega))
   rcases Nat.lt_succ_iff_lt_or_eq.1 hj with hj | rfl
   · exact hI j hj
   · exact hb h
 · have : m = p.length := by have := dcF hc; omega
   subst this
   refine aw.2 fun t ht => ?_
   obtain ⟨i, hi, rfl⟩ := List.getElem_of_mem ht
   have := hI i hi
   have e : gt p (i : Int) = p[i] := by rw [cO]; simp [List.getD, geT hi]
   rwa [e] at this
def tj (r : ak) (w h : Nat) (x y : Int) (b : A4 Int) : Option Int := wA r w h (x + b.e0) (y + b.e1) b.e2 b.e3
def Bc (a b : Int) (t : aj) : Bool := decide ((Ew ((Ew (a * t.B.e2)) * t.B.e3)) < (Ew ((Ew (b * t.A.e2)) * t.A.e3)))
def nC (f : A4 Int -> Option Int) : List aj -> Nat -> Int -> Option Int
 | [], _, w => some w
 | t :: p, k, w => match f t.A, f t.B with
  | some a, some b => nC f p (k + 1) (if Bc a b t = true then b7 .or .u64 w (lE .u64 1 (k : Int)) else w)
  | _, _ => none
theorem za (x y : Int) : kI (b7 .or .u64 x y) := by
 show kI (IntKind.u64.wrap _)
 have h : (BitVec.ofInt IntKind.u64.bits x ||| BitVec.ofInt IntKind.u64.bits y).toNat < 2 ^ 64 := (BitVec.ofInt 64 x ||| BitVec.ofInt 64 y).isLt
 rw [<- fh]
 generalize (BitVec.ofInt IntKind.u64.bits x ||| BitVec.ofInt IntKind.u64.bits y).toNat = m at h
 rw [dJ (by omega) (by omega)]
 unfold kI; omega
theorem pS {f : A4 Int -> Option Int} : ∀ (p : List aj) (k : Nat) (w v : Int), kI w -> nC f p k w = some v -> kI v
 | [], _, _, _, hw, h => by unfold nC at h; cases h; exact hw
 | t :: p, k, w, v, hw, h => by
  unfold nC at h
  cases ha : f t.A with
  | none => rw [ha] at h; cases h
  | some a =>
   cases hb : f t.B with
   | none => rw [ha, hb] at h; cases h
   | some b =>
    rw [ha, hb] at h
    refine pS p (k + 1) _ v ?_ h
    split
    · exact za _ _
    · exact hw
def jR (r : ak) (w h : Nat) (p : List aj) (x y : Nat) : Option Int := nC (tj r w h x y) p 0 0
section
variable {r : ak} {w h : Nat}
theorem zn {n : Nat} {m : aG} (hr : jZ r w h) (hT : rm r w h m.f_table) (hn : 100 < n) {x y : Nat} (hx : x < w) (hy : y < h) {b : A4 Int} (hb : j9 b) :
  bY n m (Ew ((x : Int) + b.e0)) (Ew ((y : Int) + b.e1)) b.e2 b.e3 = some (match tj r w h x y b with | some v => (v, true) | none => (0, false)) := by
 obtain ⟨h1, h2, h3, h4⟩ := hb
 have w9 := hr.w9; have h9 := hr.h9
 rw [wrap64_in (by omega) (by omega), wrap64_in (by omega) (by omega)]
 unfold bY tj
 rw [Cd hr hT hn (by omega) (by omega) h1 h2]
 cases wA r w h ((x : Int) + b.e0) ((y : Int) + b.e1) b.e2 b.e3 <;> rfl
theorem Bz {n : Nat} {m : aG} {p : List aj} (hr : jZ r w h) (hT : rm r w h m.f_table) (hn : 100 < n) (hp : uR p) {x y : Nat} (hx : x < w) (hy : y < h) :
  cr n m p x y = some (match jR r w h p x y with | some v => (v, true) | none => (0, false)) := by
 obtain ⟨hl, hp⟩ := hp
 apply Ok.eq
 unfold cr
 generalize hg : jR r w h p x y = res
 refine Ok.bd (R := fun o : Sum Int (Int × Bool) => match o with | .inl v => res = some v | .inr q => res = none /\ q = (0, false)) ?_ (by
  rintro (v | q) h0
  · have h0 : res = some v := h0
    subst h0; exact aw.2 rfl
  · obtain ⟨h0, rfl⟩ := h0
    subst h0; exact aw.2 rfl)
 refine bI (fun s : Int × Int => ∃ k : Nat, s.2 = k /\ k <= p.length /\ nC (tj r w h x y) (p.drop k) k s.1 = res) (fun s => p.length - s.2.toNat) ?_ n (0, 0) ⟨0, rfl, Nat.zero_le _, hg⟩ (by first | omega | (dsimp only; omega))
 rintro again ⟨v, i⟩ ⟨k, rfl, hk, hw⟩ ih
 dsimp only at hk hw ⊢
 refine Ok.cd (fun hc => ?_) (fun hc => ?_)
 · have hlt : k < p.length := by have := dcT hc; omega
   refine Ok.gd (by rw [aJ]; exact decide_eq_true hlt) ?_
   have e : gt p (k : Int) = p[k] := by rw [cO]; simp [List.getD, geT hlt]
   have ht : gt p (k : Int) ∈ p := by rw [e]; exact List.getElem_mem hlt
   obtain ⟨bA, bB⟩ := hp _ ht
   have ed : p.drop k = gt p (k : Int) :: p.drop (k + 1) := by rw [e]; exact List.drop_eq_getElem_cons hlt
   rw [ed] at hw
   generalize gt p (k : Int) = t at *
   unfold nC at hw
   refine Ok.bde (zn hr hT hn hx hy bA) (Ok.bde (zn hr hT hn hx hy bB) ?_)
   have ew : Ew ((k : Int) + 1) = ((k + 1 : Nat) : Int) := by rw [wrap64_in (by omega) (by omega)]; omega
   cases hA : tj r w h x y t.A with
   | none =>
    rw [hA] at hw
    exact Ok.cd (fun _ => aw.2 ⟨hw.symm, rfl⟩) (fun h => by cases h)
   | some a =>
    cases hB : tj r w h x y t.B with
    | none =>
     rw [hA, hB] at hw
     exact Ok.cd (fun h => by cases h) (fun _ => Ok.cd (fun _ => aw.2 ⟨hw.symm, rfl⟩) (fun h => by cases h))
    | some b =>
     rw [hA, hB] at hw
     dsimp only at hw ⊢
     refine Ok.cd (fun h => by cases h) (fun _ => Ok.cd (fun h => by cases h) (fun _ => ?_))
     rw [ew]
     refine Ok.cd (fun hb => ?_) (fun hb => ?_)
     · refine Ok.gd (decide_eq_true (by omega)) (ih (_, ((k + 1 : Nat) : Int)) ⟨k + 1, rfl, by omega, ?_⟩ (by first | omega | (dsimp only; omega)))
       rw [if_pos (show Bc a b t = true from hb)] at hw; exact hw
     · refine ih (_, ((k + 1 : Nat) : Int)) ⟨k + 1, rfl, by omega, ?_⟩ (by first | omega | (dsimp only; omega))
       rw [if_neg (by rw [show Bc a b t = false from hb]; simp)] at hw; exact hw
 · have : k = p.length := by have := dcF hc; omega
   subst this
   rw [List.drop_length] at hw
   exact aw.2 hw.symm
end
end Go.L


set_option linter.all false
namespace Go.L
open Go Go.Eng
theorem gT {γ : Type} [Inhabited γ] {l : List γ} {x : γ} {k : Nat} : gt (l ++ [x]) (k : Int) = if k < l.length then gt l (k : Int) else if k = l.length then x else default := by
 rw [cO, cO]
 simp only [List.getD_eq_getElem?_getD]
 by_cases h : k < l.length
 · rw [if_pos h, List.getElem?_append_left h]
 · rw [if_neg h, List.getElem?_append_right (by omega)]
   by_cases e : k = l.length
   · subst e; simp
   · rw [if_neg e, List.getElem?_eq_none (by simp; omega)]; rfl
def vD (q : ah) : Int := q.Y * 16 + q.X
structure jq (r : ak) (w h : Nat) (p : List aj) (y x : Nat) (at' : List ah) (ws : List Int) : Prop where
 len : at'.length = ws.length
 le : at'.length <= y * w + x
 val : ∀ k : Nat, k < at'.length -> ∃ i j : Nat, i < w /\ j < h /\ gt at' (k : Int) = ⟨i, j⟩ /\ jR r w h p i j = some (gt ws (k : Int))
 all : ∀ i j : Nat, i < w -> j < h -> (j < y \/ (j = y /\ i < x)) -> ∀ v, jR r w h p i j = some v -> ∃ k : Nat, k < at'.length /\ gt at' (k : Int) = ⟨i, j⟩
 lt : ∀ k : Nat, k < at'.length -> vD (gt at' (k : Int)) < (y : Int) * 16 + x
 srt : ∀ k l : Nat, k < l -> l < at'.length -> vD (gt at' (k : Int)) < vD (gt at' (l : Int))
section
variable {r : ak} {w h : Nat} {p : List aj}
theorem jq.skip {y x : Nat} {at' : List ah} {ws : List Int} (hP : jq r w h p y x at' ws) (hn : jR r w h p x y = none) : jq r w h p y (x + 1) at' ws :=
 ⟨hP.len, by have := hP.le; omega, hP.val, fun i j hi hj hij v hv => by
  by_cases e : i = x /\ j = y
  · obtain ⟨rfl, rfl⟩ := e; rw [hn] at hv; cases hv
  · exact hP.all i j hi hj (by omega) v hv, fun k hk => by have := hP.lt k hk; omega, hP.srt⟩
theorem jq.add {y x : Nat} {at' : List ah} {ws : List Int} (hP : jq r w h p y x at' ws) (hx : x < w) (hy : y < h) {v : Int} (hv : jR r w h p x y = some v) : jq r w h p y (x + 1) (at' ++ [⟨x, y⟩]) (ws ++ [v]) := by
 have hl := hP.len
 refine ⟨by simp [hl], by have := hP.le; simp; omega, fun k hk => ?_, fun i j hi hj hij u hu => ?_, fun k hk => ?_, fun k l hkl hl' => ?_⟩
 · rw [gT, gT]
   by_cases e : k < at'.length
   · rw [if_pos e, if_pos (by omega)]; exact hP.val k e
   · have : k = at'.length := by simp at hk; omega
     subst this
     rw [if_neg (by omega), if_pos rfl, if_neg (by omega), if_pos hl]
     exact ⟨x, y, hx, hy, rfl, hv⟩
 · by_cases e : i = x /\ j = y
   · obtain ⟨rfl, rfl⟩ := e
     exact ⟨at'.length, by simp, by rw [gT, if_neg (by omega), if_pos rfl]⟩
   · obtain ⟨k, hk, e⟩ := hP.all i j hi hj (by omega) u hu
     exact ⟨k, by simp; omega, by rw [gT, if_pos hk]; exact e⟩
 · rw [gT]
   by_cases e : k < at'.length
   · rw [if_pos e]; have := hP.lt k e; omega
   · have : k = at'.length := by simp at hk; omega
     subst this
     rw [if_neg (by omega), if_pos rfl]
     show (y : Int) * 16 + x < _
     omega
 · rw [gT, gT]
   by_cases e : l < at'.length
   · rw [if_pos e, if_pos (by omega)]; exact hP.srt k l hkl e
   · have : l = at'.length := by simp at hl'; omega
     subst this
     rw [if_pos hkl, if_neg (by omega), if_pos rfl]
     exact hP.lt k hkl
theorem jq.line {y : Nat} {at' : List ah} {ws : List Int} (hw : w <= 9) (hP : jq r w h p y w at' ws) : jq r w h p (y + 1) 0 at' ws :=
 ⟨hP.len, by have := hP.le; rw [Nat.add_mul]; omega, hP.val, fun i j hi hj hij v hv => hP.all i j hi hj (by omega) v hv, fun k hk => by have := hP.lt k hk; omega, hP.srt⟩
theorem xe {n : Nat} (hr : jZ r w h) (hn : 100 < n) (hp : uR p) (hc : dL n p = some 0) : Ok (dt n r p) (fun o => o.2.2 = 0 /\ jq r w h p h 0 o.1 o.2.1) := by
 have w9 := hr.w9; have h9 := hr.h9
 have wh := mS w9 h9
 unfold dt
 refine Ok.bd (R := fun o => o.2 = 0 /\ rm r w h o.1.f_table) ?_ ?_
 · unfold fY ig
   refine Ok.bd (R := fun o => o.2 = 0 /\ rm r w h o.1.f_table) (Ok.bd (wm hr hn) (fun o ho => aw.2 ho)) ?_
   rintro ⟨m, c⟩ ⟨rfl, hT⟩
   dsimp only at hT ⊢
   refine Ok.cd (fun _ => Ok.bde hc (aw.2 ⟨rfl, hT⟩)) (fun h => by cases h)
 rintro ⟨m, c⟩ ⟨rfl, hT⟩
 dsimp only at hT ⊢
 refine Ok.cd (fun h => by cases h) (fun _ => ?_)
 refine Ok.bd (R := fun o => jq r w h p h 0 o.1 o.2) ?_ (by rintro ⟨a, b⟩ hP; exact aw.2 ⟨rfl, hP⟩)
 rw [hr.wd, hr.ht]
 refine bI (fun s : List ah × List Int × Int => ∃ y : Nat, s.2.2 = y /\ y <= h /\ jq r w h p y 0 s.1 s.2.1) (fun s => h - s.2.2.toNat) ?_ n ([], [], 0) ⟨0, rfl, Nat.zero_le _, rfl, by simp, fun k hk => by simp at hk, fun i j hi hj hij => by omega, fun k hk => by simp at hk, fun k l hkl hl => by simp at hl⟩ (by first | omega | (dsimp only; omega))
 rintro again ⟨a, b, i⟩ ⟨y, rfl, hy, hP⟩ ih
 dsimp only at hy hP ⊢
 refine Ok.cd (fun hcy => ?_) (fun hcy => ?_)
 · have hly : y < h := by have := dcT hcy; omega
   have ew : Ew ((y : Int) + 1) = ((y + 1 : Nat) : Int) := by rw [wrap64_in (by omega) (by omega)]; omega
   refine Ok.bd (R := fun o => jq r w h p y w o.1 o.2) ?_ (by
    rintro ⟨a2, b2⟩ hP2
    dsimp only at hP2 ⊢
    rw [ew]
    exact ih (a2, b2, ((y + 1 : Nat) : Int)) ⟨y + 1, rfl, by omega, hP2.line w9⟩ (by first | omega | (dsimp only; omega)))
   clear ew hcy
   refine bI (fun s : List ah × List Int × Int => ∃ x : Nat, s.2.2 = x /\ x <= w /\ jq r w h p y x s.1 s.2.1) (fun s => w - s.2.2.toNat) ?_ n (a, b, 0) ⟨0, rfl, Nat.zero_le _, hP⟩ (by first | omega | (dsimp only; omega))
   rintro again2 ⟨a2, b2, i⟩ ⟨x, rfl, hx, hP2⟩ ih2
   dsimp only at hx hP2 ⊢
   refine Ok.cd (fun hcx => ?_) (fun hcx => ?_)
   · have hlx : x < w := by have := dcT hcx; omega
     have ex : Ew ((x : Int) + 1) = ((x + 1 : Nat) : Int) := by rw [wrap64_in (by omega) (by omega)]; omega
     rw [ex]
     clear ex hcx
     refine Ok.bde (Bz hr hT hn hp hlx hly) ?_
     cases hw : jR r w h p x y with
     | none =>
      exact Ok.cd (fun h => by cases h) (fun _ => ih2 (a2, b2, ((x + 1 : Nat) : Int)) ⟨x + 1, rfl, by omega, hP2.skip hw⟩ (by first | omega | (dsimp only; omega)))
     | some v =>
      have hle := hP2.le; have hlen := hP2.len
      have := oh hlx hly
      refine Ok.cd (fun _ => ?_) (fun h => by cases h)
      refine Ok.gd (decide_eq_true (by omega)) (Ok.gd (decide_eq_true (by omega)) (Ok.gd (decide_eq_true (by omega)) (Ok.gd (decide_eq_true (by omega)) ?_)))
      exact ih2 (a2 ++ [⟨x, y⟩], b2 ++ [v], ((x + 1 : Nat) : Int)) ⟨x + 1, rfl, by omega, hP2.add hlx hly hw⟩ (by first | omega | (dsimp only; omega))
   · have : x = w := by have := dcF hcx; omega
     subst this
     exact aw.2 hP2
 · have : y = h := by have := dcF hcy; omega
   subst this
   exact aw.2 hP
structure nO (r : ak) (w h : Nat) (s : ak) (w2 h2 x0 y0 : Nat) : Prop where
 ok : jZ s w2 h2
 wx : x0 + w2 <= w
 hy : y0 + h2 <= h
 px : ∀ x y : Nat, x < w2 -> y < h2 -> qc s w2 x y = qc r w (x0 + x) (y0 + y)
theorem tV {s : ak} {w2 h2 x0 y0 : Nat} (hc : nO r w h s w2 h2 x0 y0) {y : Nat} (hy : y < h2) : ∀ x, x <= w2 -> qd s w2 y x = qd r w (y0 + y) (x0 + x) - qd r w (y0 + y) x0
 | 0, _ => by simp [qd]
 | x + 1, hx => by
  have ih := tV hc hy x (by omega)
  have := hc.px x y (by omega) hy
  rw [show x0 + (x + 1) = (x0 + x) + 1 by omega]
  simp only [qd]
  rw [ih, this]; omega
theorem mD {s : ak} {w2 h2 x0 y0 : Nat} (hc : nO r w h s w2 h2 x0 y0) : ∀ y x, y <= h2 -> x <= w2 -> gi s w2 y x = gi r w (y0 + y) (x0 + x) - gi r w y0 (x0 + x) - gi r w (y0 + y) x0 + gi r w y0 x0
 | 0, x, _, _ => by simp [gi]; omega
 | y + 1, x, hy, hx => by
  have ih := mD hc y x (by omega) hx
  have := tV hc (y := y) (by omega) x hx
  rw [show y0 + (y + 1) = (y0 + y) + 1 by omega]
  simp only [gi]
  rw [ih, this]; omega
theorem uX {s : ak} {w2 h2 x0 y0 : Nat} (hc : nO r w h s w2 h2 x0 y0) {x y : Nat} {b : A4 Int} {v : Int} (h1 : tj s w2 h2 x y b = some v) : 0 <= b.e2 -> 0 <= b.e3 -> tj r w h ((x0 + x : Nat) : Int) ((y0 + y : Nat) : Int) b = some v := fun q2 q3 => by
 have wx := hc.wx; have hy := hc.hy
 unfold tj wA at *
 split at h1
 · rename_i hcond
   rw [if_pos (by omega)]
   obtain ⟨X, hX⟩ : ∃ X : Nat, (x : Int) + b.e0 = X := ⟨((x : Int) + b.e0).toNat, by omega⟩
   obtain ⟨Y, hY⟩ : ∃ Y : Nat, (y : Int) + b.e1 = Y := ⟨((y : Int) + b.e1).toNat, by omega⟩
   obtain ⟨A, hA⟩ : ∃ A : Nat, b.e2 = A := ⟨b.e2.toNat, by omega⟩
   obtain ⟨B, hB⟩ : ∃ B : Nat, b.e3 = B := ⟨b.e3.toNat, by omega⟩
   rw [hX, hY, hA, hB] at h1 hcond
   have eX : ((x0 + x : Nat) : Int) + b.e0 = ((x0 + X : Nat) : Int) := by omega
   have eY : ((y0 + y : Nat) : Int) + b.e1 = ((y0 + Y : Nat) : Int) := by omega
   rw [eX, eY, hA, hB]
   rw [<- Int.natCast_add, <- Int.natCast_add] at h1 hcond
   rw [<- Int.natCast_add, <- Int.natCast_add]
   simp only [Int.toNat_natCast] at h1 ⊢
   rw [mD hc (Y + B) (X + A) (by omega) (by omega), mD hc Y (X + A) (by omega) (by omega), mD hc (Y + B) X (by omega) (by omega), mD hc Y X (by omega) (by omega)] at h1
   rw [show x0 + X + A = x0 + (X + A) by omega, show y0 + Y + B = y0 + (Y + B) by omega]
   rw [<- h1]
   congr 1
   omega
 · cases h1
end
end Go.L

