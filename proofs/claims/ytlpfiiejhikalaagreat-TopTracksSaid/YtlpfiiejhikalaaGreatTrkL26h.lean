import Derived.Test.YtlpfiiejhikalaaGreatTrkL26f
set_option linter.all false
namespace Go.L
open Go Go.Eng
abbrev lZ := aa -> aa -> Prop
def pO (E : lZ) (a b : aa) : Prop := ∃ m m', E a m /\ E b m' /\ m.Image = m'.Image
def jB (E : lZ) (t : ai) : lZ := fun m m' => E m m' \/ (¬ pO E t.A t.B /\ ((E m t.A /\ E m' t.B) \/ (E m t.B /\ E m' t.A)))
def jo (S : Tis) : lZ := S.foldl jB Eq
theorem vL {S : Tis} {t : ai} : jo (S ++ [t]) = jB (jo S) t := by unfold jo; rw [List.foldl_append]; rfl
structure Eqv (E : lZ) : Prop where
 refl : ∀ m, E m m
 symm : ∀ {m m'}, E m m' -> E m' m
 trans : ∀ {a b c}, E a b -> E b c -> E a c
 inj : ∀ {m m'}, E m m' -> m.Image = m'.Image -> m = m'
theorem Eqv.eq : Eqv Eq := ⟨fun _ => rfl, fun h => h.symm, fun h k => h.trans k, fun h _ => h⟩
theorem Eqv.stp {E : lZ} (h : Eqv E) (t : ai) : Eqv (jB E t) := by
 have no : ¬ pO E t.A t.B -> ¬ E t.A t.B := fun hc he => hc ⟨t.A, t.A, h.refl _, h.symm he, rfl⟩
 refine ⟨fun m => .inl (h.refl m), ?_, ?_, ?_⟩
 · rintro m m' (h1 | ⟨hc, ⟨h1, h2⟩ | ⟨h1, h2⟩⟩)
   · exact .inl (h.symm h1)
   · exact .inr ⟨hc, .inr ⟨h2, h1⟩⟩
   · exact .inr ⟨hc, .inl ⟨h2, h1⟩⟩
 · rintro a b c (h1 | ⟨hc, ⟨h1, h2⟩ | ⟨h1, h2⟩⟩) (k1 | ⟨kc, ⟨k1, k2⟩ | ⟨k1, k2⟩⟩)
   · exact .inl (h.trans h1 k1)
   · exact .inr ⟨kc, .inl ⟨h.trans h1 k1, k2⟩⟩
   · exact .inr ⟨kc, .inr ⟨h.trans h1 k1, k2⟩⟩
   · exact .inr ⟨hc, .inl ⟨h1, h.trans (h.symm k1) h2⟩⟩
   · exact (no hc (h.trans (h.symm k1) h2)).elim
   · exact .inl (h.trans h1 (h.symm k2))
   · exact .inr ⟨hc, .inr ⟨h1, h.trans (h.symm k1) h2⟩⟩
   · exact .inl (h.trans h1 (h.symm k2))
   · exact (no hc (h.trans (h.symm h2) k1)).elim
 · rintro m m' (h1 | ⟨hc, ⟨h1, h2⟩ | ⟨h1, h2⟩⟩) he
   · exact h.inj h1 he
   · exact (hc ⟨m, m', h.symm h1, h.symm h2, he⟩).elim
   · exact (hc ⟨m', m, h.symm h2, h.symm h1, he.symm⟩).elim
theorem xA : ∀ S : Tis, Eqv (jo S) := by
 intro S
 have key : ∀ (S : Tis) (E : lZ), Eqv E -> Eqv (S.foldl jB E) := by
  intro S
  induction S with
  | nil => intro E h; exact h
  | cons t S ih => intro E h; exact ih _ (h.stp t)
 exact key S _ Eqv.eq
theorem pz {x : Nat} (h : x < 2 ^ 64) : IntKind.u64.wrap ((x : Nat) : Int) = x := by
 have : (2 : Nat) ^ 64 = 18446744073709551616 := rfl
 rw [<- fh, dJ (by omega) (by omega)]
theorem mQ {x : Nat} (h : x < 2 ^ 64) : (BitVec.ofInt IntKind.u64.bits (x : Int)).toNat = x := by
 rw [BitVec.toNat_ofInt]
 have e : ((2 ^ IntKind.u64.bits : Nat) : Int) = 18446744073709551616 := rfl
 have : (2 : Nat) ^ 64 = 18446744073709551616 := rfl
 rw [e]; omega
theorem Am {x y : Nat} (hx : x < 2 ^ 64) (hy : y < 2 ^ 64) : b7 .and .u64 x y = ((x &&& y : Nat) : Int) := by
 unfold b7
 show IntKind.u64.wrap _ = _
 rw [BitVec.toNat_and, mQ hx, mQ hy]
 exact pz (Nat.lt_of_le_of_lt Nat.and_le_left hx)
theorem BQ {x y : Nat} (hx : x < 2 ^ 64) (hy : y < 2 ^ 64) : b7 .or .u64 x y = ((x ||| y : Nat) : Int) := by
 unfold b7
 show IntKind.u64.wrap _ = _
 rw [BitVec.toNat_or, mQ hx, mQ hy]
 exact pz (Nat.or_lt_two_pow hx hy)
theorem Ac {i : Int} (h : 0 <= i) (h2 : i < 64) : lE .u64 (1 : Int) i = ((2 ^ i.toNat : Nat) : Int) := by
 unfold lE
 have e : min i.toNat IntKind.u64.bits = i.toNat := Nat.min_eq_left (by have : IntKind.u64.bits = 64 := rfl; omega)
 rw [e, Int.one_mul, fh]
 have : ((2 : Int) ^ i.toNat) = ((2 ^ i.toNat : Nat) : Int) := by simp
 rw [this]
 exact pz (Nat.pow_lt_pow_right (by omega) (by omega))
theorem and_zero {x y : Nat} : x &&& y = 0 ↔ ∀ j, ¬ (x.testBit j = true /\ y.testBit j = true) := by
 constructor
 · intro h j hj
   have : (x &&& y).testBit j = true := by rw [Nat.testBit_and, hj.1, hj.2]; rfl
   rw [h, Nat.zero_testBit] at this; cases this
 · intro h
   apply Nat.eq_of_testBit_eq
   intro j
   rw [Nat.testBit_and, Nat.zero_testBit]
   cases h1 : x.testBit j with
   | false => rfl
   | true =>
    cases h2 : y.testBit j with
    | false => rfl
    | true => exact (h j ⟨h1, h2⟩).elim
structure qa (E : lZ) (num : List (aa × Int)) (M : Mks) (p img : List Int) (T : Nat) : Prop where
 num : num = oQ M
 nd : M.Nodup
 ok : ∀ m ∈ M, okM m
 il : img.length = M.length
 supp : ∀ m m', E m m' -> m = m' \/ (m ∈ M /\ m' ∈ M)
 eqv : Eqv E
 forest : ∃ r τ : Nat -> Nat, UF p r τ T M.length /\ (∀ k k', k < M.length -> k' < M.length -> (r k = r k' ↔ E (M.getD k default) (M.getD k' default))) /\
  ∀ k, k < M.length -> r k = k -> ∃ b : Nat, img.getD k default = (b : Int) /\ b < 2 ^ 64 /\ ∀ j, b.testBit j = true ↔ ∃ k', k' < M.length /\ r k' = k /\ (M.getD k' default).Image = (j : Int)
theorem gW {γ : Type} [Inhabited γ] {l : List γ} {x : γ} {k : Nat} : (l ++ [x]).getD k default = if k < l.length then l.getD k default else if k = l.length then x else default := by
 simp only [List.getD]
 by_cases h : k < l.length
 · rw [if_pos h, List.getElem?_append_left h]
 · rw [if_neg h, List.getElem?_append_right (by omega)]
   by_cases e : k = l.length
   · rw [if_pos e, e]; simp
   · rw [if_neg e]
     have : ¬ k - l.length = 0 := by omega
     simp [List.getElem?_eq_none (show ([x] : List γ).length <= k - l.length by simp; omega)]
theorem wM {n : Nat} {c0 : Tis} {E : lZ} {num : List (aa × Int)} {M : Mks} {p img : List Int} {T : Nat} (h : qa E num M p img T) {m : aa} (hm : okM m) (hl : M.length <= 1000) :
  Ok (ck n c0 num M p img m) (fun o => qa E o.1 o.2.1 o.2.2.1 o.2.2.2 T /\ (∀ x, x ∈ o.2.1 ↔ x ∈ M \/ x = m) /\ o.2.1.length <= M.length + 1) := by
 unfold ck
 obtain ⟨h1, h2, h3, h4, h5, h6, r, τ, hU, hR, hB⟩ := h
 subst h1
 have hpl := hU.len
 refine Ok.cd (fun hh => ?_) (fun hh => ?_)
 · have hmm := u4.1 hh
   refine aw.2 ⟨⟨rfl, h2, h3, h4, h5, h6, r, τ, hU, hR, hB⟩, fun x => ?_, Nat.le_succ _⟩
   exact ⟨.inl, fun hx => hx.elim id fun e => e ▸ hmm⟩
 · have hmm : m ∉ M := fun hx => by rw [u4.2 hx] at hh; cases hh
   refine Ok.gd (decide_eq_true (by omega)) (Ok.gd (decide_eq_true (by omega)) (Ok.gd (decide_eq_true (by omega)) (Ok.gd (decide_eq_true (by omega)) (Ok.gd (decide_eq_true hm.1.1) (Ok.gd (decide_eq_true (by omega)) (Ok.gd (decide_eq_true (by omega)) (aw.2 ?_)))))))
   refine ⟨?_, fun x => by simp, by simp⟩
   dsimp only
   have hput : dT (oQ M) m (M.length : Int) = oQ (M ++ [m]) := by rw [mb hh, xT]
   have hsing : ∀ k, k < M.length -> ¬ E (M.getD k default) m := fun k hk he => by
    rcases h5 _ _ he with e | ⟨_, e⟩
    · exact hmm (e ▸ pg hk)
    · exact hmm e
   have gM : ∀ k, k < M.length -> (M ++ [m]).getD k default = M.getD k default := fun k hk => by rw [gW, if_pos hk]
   have gm : (M ++ [m]).getD M.length default = m := by rw [gW, if_neg (by omega), if_pos rfl]
   refine ⟨hput, ?_, ?_, by simp [h4], ?_, h6, fun k => if k = M.length then M.length else r k, fun k => if k = M.length then T else τ k, ?_, ?_, ?_⟩
   · rw [List.nodup_append]
     exact ⟨h2, by simp, fun a ha b hb => by simp at hb; subst hb; exact fun e => hmm (e ▸ ha)⟩
   · intro x hx
     rcases List.mem_append.1 hx with hx | hx
     · exact h3 x hx
     · simp at hx; subst hx; exact hm
   · intro x y hxy
     rcases h5 x y hxy with e | ⟨a, b⟩
     · exact .inl e
     · exact .inr ⟨by simp [a], by simp [b]⟩
   · refine ⟨by simp [hpl], fun k hk => ?_, fun k hk => ?_⟩
     · simp only [List.length_append, List.length_singleton] at hk
       by_cases e : k = M.length
       · subst e
         exact ⟨M.length, by rw [gW, hpl, if_neg (by omega), if_pos rfl], by simp, rfl, by simp, fun h => (h rfl).elim, fun _ => by simp⟩
       · obtain ⟨q, q1, q2, q3, q4, q5, q6⟩ := hU.up k (by omega)
         refine ⟨q, by rw [gW, hpl, if_pos (by omega), q1], by simp; omega, ?_, ?_, ?_, ?_⟩
         · rw [if_neg (by omega), if_neg e]; exact q3
         · rw [if_neg e]; exact q4
         · rw [if_neg e, if_neg (by omega)]; exact q5
         · rw [if_neg e]; exact q6
     · simp only [List.length_append, List.length_singleton] at hk
       by_cases e : k = M.length
       · subst e
         refine ⟨by simp, by simp, ?_⟩
         rw [if_pos rfl, gW, hpl, if_neg (by omega), if_pos rfl]
       · obtain ⟨g1, g2, g3⟩ := hU.root k (by omega)
         rw [if_neg e]
         refine ⟨by simp; omega, by rw [if_neg (by omega)]; exact g2, by rw [gW, hpl, if_pos (by omega)]; exact g3⟩
   · intro k k' hk hk'
     simp only [List.length_append, List.length_singleton] at hk hk'
     dsimp only
     by_cases e : k = M.length
     · subst e
       rw [if_pos rfl, gm]
       by_cases e' : k' = M.length
       · subst e'
         rw [if_pos rfl, gm]; exact ⟨fun _ => h6.refl _, fun _ => rfl⟩
       · rw [if_neg e', gM k' (by omega)]
         have := (hU.root k' (by omega)).1
         exact ⟨fun h => by omega, fun h => (hsing k' (by omega) (h6.symm h)).elim⟩
     · rw [if_neg e, gM k (by omega)]
       by_cases e' : k' = M.length
       · subst e'
         rw [if_pos rfl, gm]
         have := (hU.root k (by omega)).1
         exact ⟨fun h => by omega, fun h => (hsing k (by omega) h).elim⟩
       · rw [if_neg e', gM k' (by omega)]; exact hR k k' (by omega) (by omega)
   · intro k hk hrk
     simp only [List.length_append, List.length_singleton] at hk
     dsimp only at hrk ⊢
     by_cases e : k = M.length
     · subst e
       refine ⟨2 ^ m.Image.toNat, ?_, Nat.pow_lt_pow_right (by omega) (by have := hm.1; omega), fun j => ?_⟩
       · rw [gW, h4, if_neg (by omega), if_pos rfl, Ac hm.1.1 hm.1.2]
       · rw [Nat.testBit_two_pow]
         constructor
         · intro hj
           have hj : m.Image.toNat = j := by simpa using hj
           exact ⟨M.length, by simp, by rw [if_pos rfl], by rw [gm]; have := hm.1; omega⟩
         · rintro ⟨k', g1, g2, g3⟩
           simp only [List.length_append, List.length_singleton] at g1
           by_cases e' : k' = M.length
           · subst e'
             rw [gm] at g3
             simp; omega
           · rw [if_neg e'] at g2
             have := (hU.root k' (by omega)).1
             omega
     · rw [if_neg e] at hrk
       obtain ⟨b, b1, b2, b3⟩ := hB k (by omega) hrk
       refine ⟨b, by rw [gW, h4, if_pos (by omega), b1], b2, fun j => ?_⟩
       rw [b3 j]
       constructor
       · rintro ⟨k', g1, g2, g3⟩
         exact ⟨k', by simp; omega, by rw [if_neg (by omega)]; exact g2, by rw [gM k' g1]; exact g3⟩
       · rintro ⟨k', g1, g2, g3⟩
         simp only [List.length_append, List.length_singleton] at g1
         by_cases e' : k' = M.length
         · subst e'; rw [if_pos rfl] at g2; omega
         · rw [if_neg e'] at g2; rw [gM k' (by omega)] at g3
           exact ⟨k', by omega, g2, g3⟩
end Go.L


set_option linter.all false
namespace Go.L
open Go Go.Eng
theorem vq {E : lZ} {t : ai} (hc : pO E t.A t.B) (m m' : aa) : jB E t m m' ↔ E m m' :=
 ⟨fun h => h.elim id fun h => (h.1 hc).elim, .inl⟩
theorem qa.stay {E : lZ} {num : List (aa × Int)} {M : Mks} {p img : List Int} {T : Nat} (h : qa E num M p img T) {t : ai} (hc : pO E t.A t.B) : qa (jB E t) num M p img (T + 1) := by
 have e : jB E t = E := by funext m m'; exact propext (vq hc m m')
 rw [e]
 obtain ⟨h1, h2, h3, h4, h5, h6, r, τ, hU, hR, hB⟩ := h
 exact ⟨h1, h2, h3, h4, h5, h6, r, τ, ⟨hU.len, fun k hk => by obtain ⟨q, q1, q2, q3, q4, q5, q6⟩ := hU.up k hk; exact ⟨q, q1, q2, q3, by omega, q5, q6⟩, hU.root⟩, hR, hB⟩
theorem BW {E : lZ} {num : List (aa × Int)} {M : Mks} {p img : List Int} {T : Nat} {r τ : Nat -> Nat} {t : ai} {ka kb : Nat} (h2 : M.Nodup) (h3 : ∀ m ∈ M, okM m) (h1 : num = oQ M) (h4 : img.length = M.length)
  (h5 : ∀ m m', E m m' -> m = m' \/ (m ∈ M /\ m' ∈ M)) (h6 : Eqv E) (hU : UF p r τ T M.length) (hR : ∀ k k', k < M.length -> k' < M.length -> (r k = r k' ↔ E (M.getD k default) (M.getD k' default)))
  (hB : ∀ k, k < M.length -> r k = k -> ∃ b : Nat, img.getD k default = (b : Int) /\ b < 2 ^ 64 /\ ∀ j, b.testBit j = true ↔ ∃ k', k' < M.length /\ r k' = k /\ (M.getD k' default).Image = (j : Int))
  (hka : ka < M.length) (hkb : kb < M.length) (eA : M.getD ka default = t.A) (eB : M.getD kb default = t.B) (hab : r ka ≠ r kb) (hc : ¬ pO E t.A t.B) :
  qa (jB E t) num M (p.set (r kb) (r ka : Int)) (img.set (r ka) (b7 .or .u64 (gt img (r ka : Int)) (gt img (r kb : Int)))) (T + 1) := by
 obtain ⟨a1, a2, a3⟩ := hU.root ka hka
 obtain ⟨b1, b2, b3⟩ := hU.root kb hkb
 have hA : ∀ k, k < M.length -> (E (M.getD k default) t.A ↔ r k = r ka) := fun k hk => by rw [<- eA, hR k ka hk hka]
 have hBB : ∀ k, k < M.length -> (E (M.getD k default) t.B ↔ r k = r kb) := fun k hk => by rw [<- eB, hR k kb hk hkb]
 have mA : t.A ∈ M := by rw [<- eA]; exact pg hka
 have mB : t.B ∈ M := by rw [<- eB]; exact pg hkb
 generalize ha : r ka = a at *
 generalize hb : r kb = b at *
 have hpl := hU.len
 have ite_le : ∀ {c : Prop} [Decidable c] {x : Nat}, x <= T -> (if c then T + 1 else x) <= T + 1 := fun h => by split <;> omega
 have lt_ite : ∀ {c : Prop} [Decidable c] {x y : Nat}, x <= T -> x < y -> x < (if c then T + 1 else y) := fun h1 h2 => by split <;> omega
 have ra : r a = a := a2
 have rb : r b = b := b2
 refine ⟨h1, h2, h3, by rw [List.length_set]; exact h4, ?_, h6.stp t, fun k => if r k = b then a else r k, fun k => if (if r k = b then a else r k) = k then T + 1 else τ k, ⟨by rw [List.length_set]; exact hpl, fun k hk => ?_, fun k hk => ?_⟩, fun k k' hk hk' => ?_, fun k hk hr => ?_⟩
 · have inM : ∀ x y, E x y -> y ∈ M -> x ∈ M := fun x y hxy hy => by
    rcases h5 x y hxy with e | ⟨g, _⟩
    · rw [e]; exact hy
    · exact g
   rintro m m' (g | ⟨_, ⟨g1, g2⟩ | ⟨g1, g2⟩⟩)
   · exact h5 m m' g
   · exact .inr ⟨inM _ _ g1 mA, inM _ _ g2 mB⟩
   · exact .inr ⟨inM _ _ g1 mB, inM _ _ g2 mA⟩
 · rw [kX]
   by_cases e : b = k
   · subst e
     rw [if_pos ⟨rfl, by omega⟩]
     refine ⟨a, rfl, a1, ?_, ?_, fun _ => ?_, fun e => (hab e).elim⟩
     · rw [ra, rb, if_neg hab, if_pos rfl]
     · rw [rb, if_pos rfl, if_neg hab]
       obtain ⟨_, _, _, _, h, _, _⟩ := hU.up b b1; omega
     · rw [rb, ra, if_pos rfl, if_neg hab, if_neg hab, if_pos rfl]
       obtain ⟨_, _, _, _, h, _, _⟩ := hU.up b b1; omega
   · rw [if_neg (fun h => e h.1)]
     obtain ⟨q, q1, q2, q3, q4, q5, q6⟩ := hU.up k hk
     refine ⟨q, q1, q2, by rw [q3], ite_le q4, fun hne => ?_, fun he => ?_⟩
     · have hroot : ¬ (if r k = b then a else r k) = k := by
        intro hh
        have hrk : r k = k := by
         by_cases hrb : r k = b
         · rw [if_pos hrb] at hh; rw [<- hh, ra] at hrb; exact (hab hrb).elim
         · rwa [if_neg hrb] at hh
        have := (hU.root k hk).2.2
        rw [hrk, q1] at this
        exact hne (by omega)
       rw [if_neg hroot]
       exact lt_ite q4 (q5 hne)
     · have hrk := q6 he
       rw [hrk, if_neg (fun h => e h.symm)]
 · obtain ⟨g1, g2, g3⟩ := hU.root k hk
   rw [kX]
   by_cases e : r k = b
   · rw [if_pos e, ra, if_neg hab]
     exact ⟨a1, rfl, by rw [if_neg (fun h => hab h.1.symm)]; exact a3⟩
   · rw [if_neg e, g2, if_neg e]
     exact ⟨g1, rfl, by rw [if_neg (fun h => e h.1.symm)]; exact g3⟩
 · dsimp only
   unfold jB
   rw [<- hR k k' hk hk', hA k hk, hA k' hk', hBB k hk, hBB k' hk']
   by_cases e : r k = b
   · rw [if_pos e]
     by_cases e' : r k' = b
     · rw [if_pos e', e, e']; exact ⟨fun _ => .inl rfl, fun _ => rfl⟩
     · rw [if_neg e', e]
       constructor
       · intro h; exact .inr ⟨hc, .inr ⟨rfl, h.symm⟩⟩
       · rintro (h | ⟨_, ⟨h, h'⟩ | ⟨_, h⟩⟩)
         · exact (e' h.symm).elim
         · exact (e' h').elim
         · exact h.symm
   · rw [if_neg e]
     by_cases e' : r k' = b
     · rw [if_pos e', e']
       constructor
       · intro h; exact .inr ⟨hc, .inl ⟨h, rfl⟩⟩
       · rintro (h | ⟨_, ⟨h, _⟩ | ⟨h, _⟩⟩)
         · exact (e h).elim
         · exact h
         · exact (e h).elim
     · rw [if_neg e']
       constructor
       · exact .inl
       · rintro (h | ⟨_, ⟨_, h⟩ | ⟨h, _⟩⟩)
         · exact h
         · exact (e' h).elim
         · exact (e h).elim
 · dsimp only at hr ⊢
   obtain ⟨x, x1, x2, x3⟩ := hB a a1 ra
   obtain ⟨y, y1, y2, y3⟩ := hB b b1 rb
   have hrb : r k ≠ b := fun e => by
    rw [if_pos e] at hr; rw [<- hr, ra] at e; exact hab e
   rw [if_neg hrb] at hr
   rw [kX, cO, cO, x1, y1, BQ x2 y2]
   by_cases e : a = k
   · subst e
     rw [if_pos ⟨rfl, by omega⟩]
     refine ⟨x ||| y, rfl, Nat.or_lt_two_pow x2 y2, fun j => ?_⟩
     rw [Nat.testBit_or, Bool.or_eq_true, x3, y3]
     constructor
     · rintro (⟨k', g1, g2, g3⟩ | ⟨k', g1, g2, g3⟩)
       · exact ⟨k', g1, by rw [if_neg (fun h => hab (g2.symm.trans h))]; exact g2, g3⟩
       · exact ⟨k', g1, by rw [if_pos g2], g3⟩
     · rintro ⟨k', g1, g2, g3⟩
       by_cases e' : r k' = b
       · exact .inr ⟨k', g1, e', g3⟩
       · rw [if_neg e'] at g2; exact .inl ⟨k', g1, g2, g3⟩
   · rw [if_neg (fun h => e h.1)]
     obtain ⟨z, z1, z2, z3⟩ := hB k hk hr
     refine ⟨z, z1, z2, fun j => ?_⟩
     rw [z3]
     constructor
     · rintro ⟨k', g1, g2, g3⟩
       exact ⟨k', g1, by rw [if_neg (fun h => hrb (hr.trans (g2.symm.trans h)))]; exact g2, g3⟩
     · rintro ⟨k', g1, g2, g3⟩
       by_cases e' : r k' = b
       · rw [if_pos e'] at g2; exact (e g2).elim
       · rw [if_neg e'] at g2; exact ⟨k', g1, g2, g3⟩
theorem x8 {E : lZ} {M : Mks} {img : List Int} {r : Nat -> Nat} {t : ai} {ka kb : Nat} (h3 : ∀ m ∈ M, okM m)
  (h5 : ∀ m m', E m m' -> m = m' \/ (m ∈ M /\ m' ∈ M)) (h6 : Eqv E) (hr : ∀ k, k < M.length -> r k < M.length /\ r (r k) = r k) (hR : ∀ k k', k < M.length -> k' < M.length -> (r k = r k' ↔ E (M.getD k default) (M.getD k' default)))
  (hB : ∀ k, k < M.length -> r k = k -> ∃ b : Nat, img.getD k default = (b : Int) /\ b < 2 ^ 64 /\ ∀ j, b.testBit j = true ↔ ∃ k', k' < M.length /\ r k' = k /\ (M.getD k' default).Image = (j : Int))
  (hka : ka < M.length) (hkb : kb < M.length) (eA : M.getD ka default = t.A) (eB : M.getD kb default = t.B) :
  (b7 .and .u64 (gt img (r ka : Int)) (gt img (r kb : Int)) = 0) ↔ ¬ pO E t.A t.B := by
 obtain ⟨x, x1, x2, x3⟩ := hB (r ka) (hr ka hka).1 (hr ka hka).2
 obtain ⟨y, y1, y2, y3⟩ := hB (r kb) (hr kb hkb).1 (hr kb hkb).2
 rw [cO, cO, x1, y1, Am x2 y2]
 have : ((x &&& y : Nat) : Int) = 0 ↔ x &&& y = 0 := by omega
 rw [this, and_zero]
 constructor
 · rintro h ⟨m, m', g1, g2, g3⟩
   have inM : ∀ z w, E z w -> z ∈ M -> w ∈ M := fun z w hzw hz => by
    rcases h5 z w hzw with e | ⟨_, g⟩
    · rw [<- e]; exact hz
    · exact g
   have hm := inM _ _ g1 (by rw [<- eA]; exact pg hka)
   have hm' := inM _ _ g2 (by rw [<- eB]; exact pg hkb)
   obtain ⟨k, hk, rfl⟩ := uV.1 hm
   obtain ⟨k', hk', rfl⟩ := uV.1 hm'
   have hi := (h3 _ hm).1.1
   refine h (M.getD k default).Image.toNat ⟨(x3 _).2 ⟨k, hk, (hR k ka hk hka).2 (by rw [eA]; exact h6.symm g1), by omega⟩, (y3 _).2 ⟨k', hk', (hR k' kb hk' hkb).2 (by rw [eB]; exact h6.symm g2), by omega⟩⟩
 · rintro h j ⟨g1, g2⟩
   obtain ⟨k, hk, e1, e2⟩ := (x3 j).1 g1
   obtain ⟨k', hk', e1', e2'⟩ := (y3 j).1 g2
   refine h ⟨M.getD k default, M.getD k' default, ?_, ?_, by rw [e2, e2']⟩
   · rw [<- eA]; exact h6.symm ((hR k ka hk hka).1 e1)
   · rw [<- eB]; exact h6.symm ((hR k' kb hk' hkb).1 e1')
def iI (S : Tis) (m : aa) : Prop := ∃ t ∈ S, m = t.A \/ m = t.B
theorem r6 {n : Nat} (hn : 1024 < n) {l : Tis} (hl : l.length <= 256) (hv : ∀ t ∈ l, okT t) :
  Ok (eV n l) (fun o => o.1 = km l /\ qa (jo (km l)) o.2.1 o.2.2.1 o.2.2.2.1 o.2.2.2.2 (km l).length /\ (∀ m, m ∈ o.2.2.1 ↔ iI (km l) m) /\ o.2.2.1.length <= 2 * (km l).length) := by
 unfold eV
 obtain ⟨s1, s2, s3⟩ := qk hv
 have hvS : ∀ t ∈ km l, okT t := fun t ht => hv t ((s2 t).1 ht)
 refine Ok.bde (yY (by omega)) (Ok.bde (zW (by omega) (by omega) hv) ?_)
 refine Ok.gd (decide_eq_true iV) ?_
 have hco : aW n (fG (ltK kT) l) = some (km l) := by
  rw [vI (by omega) (by rw [iV]; omega), iV]; rfl
 refine Ok.bde hco ?_
 generalize km l = S at *
 refine Ok.bd (R := fun o => qa (jo S) o.1 o.2.1 o.2.2.1 o.2.2.2 S.length /\ (∀ m, m ∈ o.2.1 ↔ iI S m) /\ o.2.1.length <= 2 * S.length) ?_ (by rintro ⟨a, b, c, d⟩ ho; exact aw.2 ⟨rfl, ho⟩)
 refine pj (γ := List (aa × Int) × Mks × List Int × List Int) (len := S.length) (fun c x => (c.1, c.2.1, c.2.2.1, c.2.2.2, x)) (fun k c => qa (jo (S.take k)) c.1 c.2.1 c.2.2.1 c.2.2.2 k /\ (∀ m, m ∈ c.2.1 ↔ iI (S.take k) m) /\ c.2.1.length <= 2 * k) (by omega) (by omega) (c0 := ([], [], [], [])) ?_ ?_ ?_
 · refine ⟨⟨rfl, List.nodup_nil, fun m hm => (by cases hm), rfl, fun m m' h => .inl h, Eqv.eq, fun k => k, fun _ => 0, ⟨rfl, fun k hk => (by cases hk), fun k hk => (by cases hk)⟩, fun k k' hk => (by cases hk), fun k hk => (by cases hk)⟩, fun m => ?_, Nat.zero_le _⟩
   simp [iI]
 · rintro again k ⟨num, M, p, img⟩ hk ⟨hS, hmk, hml⟩ ih
   dsimp only at hS hmk hml ⊢
   refine Ok.cd (fun _ => ?_) (fun h => by have := dcF h; omega)
   refine Ok.gd (by rw [aJ]; exact decide_eq_true hk) ?_
   have et : gt S (k : Int) = S[k] := by rw [cO]; simp [List.getD, geT hk]
   have hts : S.take (k + 1) = S.take k ++ [gt S (k : Int)] := by rw [List.take_add_one, geT hk, et]; rfl
   have hok : okT (gt S (k : Int)) := by rw [et]; exact hvS _ (List.getElem_mem hk)
   have hrel : jo (S.take (k + 1)) = jB (jo (S.take k)) (gt S (k : Int)) := by rw [hts, vL]
   have hmk1 : ∀ m, iI (S.take (k + 1)) m ↔ iI (S.take k) m \/ m = (gt S (k : Int)).A \/ m = (gt S (k : Int)).B := fun m => by
    rw [hts]; unfold iI
    constructor
    · rintro ⟨t, ht, h⟩
      rcases List.mem_append.1 ht with ht | ht
      · exact .inl ⟨t, ht, h⟩
      · simp at ht; subst ht; exact .inr h
    · rintro (⟨t, ht, h⟩ | h)
      · exact ⟨t, by simp [ht], h⟩
      · exact ⟨_, by simp, h⟩
   rw [hrel] at ih
   generalize gt S (k : Int) = t at *
   refine Ok.bd (wM hS hok.1 (by omega)) ?_
   rintro ⟨num1, M1, p1, img1⟩ ⟨a1, a2, a3⟩
   refine Ok.bd (wM a1 hok.2.1 (by dsimp only at a3 ⊢; omega)) ?_
   rintro ⟨num2, M2, p2, img2⟩ ⟨b1, b2, b3⟩
   dsimp only at a1 a2 a3 b1 b2 b3 ⊢
   have hM2 : ∀ m, m ∈ M2 ↔ iI (S.take (k + 1)) m := fun m => by
    rw [b2, a2, hmk, hmk1]
    exact ⟨fun h => by rcases h with (h | h) | h; exact .inl h; exact .inr (.inl h); exact .inr (.inr h), fun h => by rcases h with h | h | h; exact .inl (.inl h); exact .inl (.inr h); exact .inr h⟩
   have hl2 : M2.length <= 2 * (k + 1) := by omega
   obtain ⟨ka, hka, eA⟩ := uV.1 ((hM2 t.A).2 ((hmk1 _).2 (.inr (.inl rfl))))
   obtain ⟨kb, hkb, eB⟩ := uV.1 ((hM2 t.B).2 ((hmk1 _).2 (.inr (.inr rfl))))
   have hst := b1
   obtain ⟨h1, h2, h3, h4, h5, h6, r, τ, hU, hR, hB⟩ := b1
   have f1 := oz (n := n) (c0 := S) (img := img2) (by omega) h2 h1 hU hka
   rw [eA] at f1
   refine Ok.bd f1 ?_
   rintro ⟨q1, v1⟩ ⟨hU1, e1⟩
   have f2 := oz (n := n) (c0 := S) (img := img2) (by omega) h2 h1 hU1 hkb
   rw [eB] at f2
   refine Ok.bd f2 ?_
   rintro ⟨q2, v2⟩ ⟨hU2, e2⟩
   dsimp only at hU1 hU2 e1 e2 ⊢
   subst e1; subst e2
   have hci := x8 (t := t) h3 h5 h6 (fun k hk => ⟨(hU.root k hk).1, (hU.root k hk).2.1⟩) hR hB hka hkb eA eB
   have hrl := (hU.root ka hka).1
   have hrl' := (hU.root kb hkb).1
   refine Ok.cd (fun hne => ?_) (fun he => ?_)
   · have hne : r ka ≠ r kb := fun e => by rw [e] at hne; simp at hne
     refine Ok.gd (by rw [aJ]; exact decide_eq_true (by omega)) (Ok.gd (by rw [aJ]; exact decide_eq_true (by omega)) ?_)
     refine Ok.cd (fun hz => ?_) (fun hz => ?_)
     · have hz := hci.1 (by simpa using hz)
       refine Ok.gd (by rw [aJ]; exact decide_eq_true (by rw [hU2.len]; omega)) ?_
       simp only [Int.toNat_natCast]
       exact ih (_, _, _, _) ⟨BW (t := t) h2 h3 h1 h4 h5 h6 hU2 hR hB hka hkb eA eB hne hz, hM2, hl2⟩
     · have hz : pO (jo (S.take k)) t.A t.B := Classical.byContradiction fun hc => by
        rw [hci.2 hc] at hz; simp at hz
       exact ih (_, _, _, _) ⟨qa.stay ⟨h1, h2, h3, h4, h5, h6, r, τ, hU2, hR, hB⟩ hz, hM2, hl2⟩
   · have he : r ka = r kb := by have : ((r ka : Nat) : Int) = r kb := by simpa using he
                                 omega
     have hE := (hR ka kb hka hkb).1 he
     rw [eA, eB] at hE
     exact ih (_, _, _, _) ⟨qa.stay ⟨h1, h2, h3, h4, h5, h6, r, τ, hU2, hR, hB⟩ ⟨t.A, t.A, h6.refl _, h6.symm hE, rfl⟩, hM2, hl2⟩
 · rintro again ⟨num, M, p, img⟩ hP
   dsimp only
   refine Ok.cd (fun h => by have := dcT h; omega) (fun _ => aw.2 ?_)
   rw [List.take_length] at hP
   exact hP
end Go.L

