import Derived.Test.YtlpfiiejhikalaaGreatTrkL11a
import Derived.Test.YtlpfiiejhikalaaGreatTrkL26w
set_option linter.all false
namespace Go.L
open Go Go.Eng
def kI (x : Int) : Prop := 0 <= x /\ x < 18446744073709551616
def nm (a b : Int) : Int := (cA 0 a b).getD 0
theorem tw (n : Nat) {a b : Int} (ha : kI a) (hb : kI b) : cA n a b = some (nm a b) /\ 0 <= nm a b /\ nm a b < 128 /\ (nm a b = 0 ↔ a = b) := by
 obtain ⟨d, h1, h2, h3, h4⟩ := BH n ha.1 ha.2 hb.1 hb.2
 have e : nm a b = d := by
  unfold nm
  rw [show cA 0 a b = cA n a b by rfl, h1]; rfl
 rw [e]; exact ⟨h1, h2, h3, h4⟩
def lS (l : List Int) (w but : Int) (m : Nat) (i d : Int) : Prop :=
 (i = -1 /\ d = 0 /\ ∀ k : Nat, k < m -> (k : Int) = but) \/
 ∃ k : Nat, k < m /\ (k : Int) ≠ but /\ i = k /\ d = nm (gt l (k : Int)) w /\ (∀ j : Nat, j < m -> (j : Int) ≠ but -> d <= nm (gt l (j : Int)) w) /\ ∀ j : Nat, j < k -> (j : Int) ≠ but -> d < nm (gt l (j : Int)) w
theorem nV {l : List Int} (hu : ∀ x ∈ l, kI x) {k : Nat} (hk : k < l.length) : kI (gt l (k : Int)) := by
 have : gt l (k : Int) = l[k] := by rw [cO]; simp [List.getD, geT hk]
 rw [this]; exact hu _ (List.getElem_mem hk)
theorem xv {l : List Int} {w but : Int} {m : Nat} {i d : Int} (h : lS l w but m i d) :
  ((m : Int) = but -> lS l w but (m + 1) i d) /\ ((m : Int) ≠ but -> i < 0 -> lS l w but (m + 1) m (nm (gt l (m : Int)) w)) /\
  ((m : Int) ≠ but -> ¬ i < 0 -> nm (gt l (m : Int)) w < d -> lS l w but (m + 1) m (nm (gt l (m : Int)) w)) /\ ((m : Int) ≠ but -> ¬ i < 0 -> ¬ nm (gt l (m : Int)) w < d -> lS l w but (m + 1) i d) := by
 refine ⟨fun hb => ?_, fun hb hi => ?_, fun hb hi hd => ?_, fun hb hi hd => ?_⟩
 · rcases h with ⟨h1, h2, h3⟩ | ⟨k, h1, h2, h3, h4, h5, h6⟩
   · exact .inl ⟨h1, h2, fun k hk => by
      rcases Nat.lt_succ_iff_lt_or_eq.1 hk with hk | rfl
      · exact h3 k hk
      · exact hb⟩
   · exact .inr ⟨k, by omega, h2, h3, h4, fun j hj hjb => by
      rcases Nat.lt_succ_iff_lt_or_eq.1 hj with hj | rfl
      · exact h5 j hj hjb
      · exact (hjb hb).elim, h6⟩
 · rcases h with ⟨h1, h2, h3⟩ | ⟨k, h1, h2, h3, h4, h5, h6⟩
   · exact .inr ⟨m, by omega, hb, rfl, rfl, fun j hj hjb => by
      rcases Nat.lt_succ_iff_lt_or_eq.1 hj with hj | rfl
      · exact (hjb (h3 j hj)).elim
      · exact Int.le_refl _, fun j hj hjb => (hjb (h3 j hj)).elim⟩
   · omega
 · rcases h with ⟨h1, h2, h3⟩ | ⟨k, h1, h2, h3, h4, h5, h6⟩
   · omega
   · exact .inr ⟨m, by omega, hb, rfl, rfl, fun j hj hjb => by
      rcases Nat.lt_succ_iff_lt_or_eq.1 hj with hj | rfl
      · have := h5 j hj hjb; omega
      · exact Int.le_refl _, fun j hj hjb => by have := h5 j hj hjb; omega⟩
 · rcases h with ⟨h1, h2, h3⟩ | ⟨k, h1, h2, h3, h4, h5, h6⟩
   · omega
   · exact .inr ⟨k, by omega, h2, h3, h4, fun j hj hjb => by
      rcases Nat.lt_succ_iff_lt_or_eq.1 hj with hj | rfl
      · exact h5 j hj hjb
      · omega, h6⟩
theorem mJ {n : Nat} {l : List Int} {w but : Int} (hn : l.length < n) (hl : l.length <= 1000) (hu : ∀ x ∈ l, kI x) (hw : kI w) : Ok (dy n l w but) (fun r => lS l w but l.length r.1 r.2) := by
 unfold dy
 refine Ok.bd (R := fun r => lS l w but l.length r.1 r.2) ?_ (by rintro ⟨i, d⟩ h; exact aw.2 h)
 refine bI (fun s : Int × Int × Int => ∃ m : Nat, s.2.2 = m /\ m <= l.length /\ lS l w but m s.1 s.2.1) (fun s => l.length - s.2.2.toNat) ?_ n (-1, 0, 0) ⟨0, rfl, Nat.zero_le _, .inl ⟨rfl, rfl, fun k hk => by omega⟩⟩ (by dsimp only; omega)
 rintro again ⟨i, d, x⟩ ⟨m, rfl, hm, hN⟩ ih
 dsimp only at hN hm ⊢
 refine Ok.cd (fun h => ?_) (fun h => ?_)
 · have hlt : m < l.length := by have := dcT h; omega
   refine Ok.gd (by rw [aJ]; exact decide_eq_true hlt) ?_
   obtain ⟨e1, e2, e3, e4⟩ := tw n (nV hu hlt) hw
   refine Ok.bde e1 ?_
   obtain ⟨s1, s2, s3, s4⟩ := xv hN
   have ew : Ew ((m : Int) + 1) = ((m + 1 : Nat) : Int) := by rw [wrap64_in (by omega) (by omega)]; omega
   have go : ∀ i' d', lS l w but (m + 1) i' d' -> Ok (again (i', d', Ew ((m : Int) + 1))) (fun r => lS l w but l.length r.1 r.2) := fun i' d' h' => by
    rw [ew]
    exact ih (i', d', ((m + 1 : Nat) : Int)) ⟨m + 1, rfl, by omega, h'⟩ (by dsimp only; omega)
   refine Ok.cd (fun hb => ?_) (fun hb => ?_)
   · have hb : (m : Int) ≠ but := by simpa using hb
     refine Ok.cd (fun hi => go _ _ (s2 hb (dcT hi))) (fun hi => ?_)
     have hi := dcF hi
     refine Ok.cd (fun hd => go _ _ (s3 hb hi (dcT hd))) (fun hd => go _ _ (s4 hb hi (dcF hd)))
   · have hb : (m : Int) = but := by simpa using hb
     exact go _ _ (s1 hb)
 · have : m = l.length := by have := dcF h; omega
   subst this
   exact aw.2 hN
def qL (l : List Int) : Prop := ∀ j k : Nat, j < l.length -> k < l.length -> gt l (j : Int) = gt l (k : Int) -> j = k
theorem u5 {l : List Int} {w : Int} (hu : ∀ x ∈ l, kI x) (hw : kI w) (hd : qL l) {j : Nat} (hj : j < l.length) (e : gt l (j : Int) = w) {i d : Int} (h : lS l w (-1) l.length i d) : i = j /\ d = 0 := by
 have z : ∀ k : Nat, k < l.length -> (nm (gt l (k : Int)) w = 0 ↔ gt l (k : Int) = w) /\ 0 <= nm (gt l (k : Int)) w := fun k hk => by
  obtain ⟨_, h2, _, h4⟩ := tw 0 (nV hu hk) hw; exact ⟨h4, h2⟩
 rcases h with ⟨_, _, h3⟩ | ⟨k, h1, h2, h3, h4, h5, h6⟩
 · have := h3 j hj; omega
 · have a := h5 j hj (by omega)
   have b := (z j hj).1.2 e
   have c := (z k h1).2
   have f : nm (gt l (k : Int)) w = 0 := by omega
   have g := (z k h1).1.1 f
   have := hd k j h1 hj (g.trans e.symm)
   subst this
   exact ⟨h3, by omega⟩
theorem rY {l : List Int} {w but : Int} (hu : ∀ x ∈ l, kI x) (hw : kI w) {i d : Int} (h : lS l w but l.length i d) : 0 <= d /\ (0 <= i -> ∃ k : Nat, k < l.length /\ i = k /\ (d = 0 -> gt l (k : Int) = w)) := by
 rcases h with ⟨h1, h2, h3⟩ | ⟨k, h1, h2, h3, h4, h5, h6⟩
 · exact ⟨by omega, fun h => by omega⟩
 · obtain ⟨_, g2, _, g4⟩ := tw 0 (nV hu h1) hw
   exact ⟨by omega, fun _ => ⟨k, h1, h3, fun e => g4.1 (by omega)⟩⟩
theorem qo {n : Nat} {l : List Int} {w i d : Int} (hn : l.length < n) (hl : l.length <= 1000) (hu : ∀ x ∈ l, kI x) (hw : kI w) : Ok (cG n l w i d 1 1) (fun b => d = 0 -> b = true) := by
 unfold cG
 refine Ok.bd (mJ hn hl hu hw) ?_
 rintro ⟨k, s⟩ h
 dsimp only at h ⊢
 refine Ok.cd (fun _ => aw.2 fun _ => rfl) (fun _ => aw.2 fun hd => ?_)
 have h0 := (rY hu hw h).1
 have h1 : s < 128 := by
  rcases h with ⟨h1, h2, h3⟩ | ⟨k, h1, h2, h3, h4, h5, h6⟩
  · omega
  · obtain ⟨_, g2, g3, g4⟩ := tw 0 (nV hu h1) hw; omega
 subst hd
 rw [wrap64_in (by omega) (by omega), wrap64_in (by omega) (by omega)]
 exact decide_eq_true (by omega)
def nT (a b : List Int) (r : List aI) : Prop :=
 r.length <= a.length /\ (∀ m ∈ r, m.Distance = 0 -> ∃ i j : Nat, i < a.length /\ j < b.length /\ m.First = i /\ m.Second = j /\ gt a (i : Int) = gt b (j : Int)) /\
 ∀ i j : Nat, i < a.length -> j < b.length -> gt a (i : Int) = gt b (j : Int) -> ∃ m ∈ r, m.First = i /\ m.Second = j /\ m.Distance = 0
theorem pq {n : Nat} {a b : List Int} (hn : 64 < n) (ha : a.length <= 64) (hb : b.length <= 64) (ua : ∀ x ∈ a, kI x) (ub : ∀ x ∈ b, kI x) (da : qL a) (db : qL b) : Ok (cY n a b 1 1) (fun r => r.2 = 0 /\ nT a b r.1) := by
 unfold cY
 refine Ok.cd (fun h => by have := dcT h; omega) (fun _ => ?_)
 refine Ok.cd (fun h => by have := dcT h; omega) (fun _ => ?_)
 refine Ok.cd (fun h => by cases h) (fun _ => ?_)
 refine Ok.cd (fun h => by cases h) (fun _ => ?_)
 refine Ok.cd (fun h => by cases h) (fun _ => ?_)
 refine Ok.cd (fun h => by cases h) (fun _ => ?_)
 refine Ok.bd (R := nT a b) ?_ (fun r h => aw.2 ⟨rfl, h⟩)
 let MW (m : Nat) (r : List aI) : Prop := r.length <= m /\ (∀ q ∈ r, q.Distance = 0 -> ∃ i j : Nat, i < a.length /\ j < b.length /\ q.First = i /\ q.Second = j /\ gt a (i : Int) = gt b (j : Int)) /\
  ∀ i j : Nat, i < m -> j < b.length -> gt a (i : Int) = gt b (j : Int) -> ∃ q ∈ r, q.First = i /\ q.Second = j /\ q.Distance = 0
 refine bI (fun s : List aI × Int => ∃ m : Nat, s.2 = m /\ m <= a.length /\ MW m s.1) (fun s => a.length - s.2.toNat) ?_ n ([], 0) ⟨0, rfl, Nat.zero_le _, by simp, by simp, fun i j hi => by omega⟩ (by dsimp only; omega)
 rintro again ⟨r, x⟩ ⟨m, rfl, hm, h1, h2, h3⟩ ih
 dsimp only at h1 h2 h3 hm ⊢
 refine Ok.cd (fun h => ?_) (fun h => ?_)
 · have hlt : m < a.length := by have := dcT h; omega
   refine Ok.gd (by rw [aJ]; exact decide_eq_true hlt) ?_
   have ew : Ew ((m : Int) + 1) = ((m + 1 : Nat) : Int) := by rw [wrap64_in (by omega) (by omega)]; omega
   rw [ew]
   have uw := nV ua hlt
   have skip : (∀ j : Nat, j < b.length -> gt a (m : Int) ≠ gt b (j : Int)) -> Ok (again (r, ((m + 1 : Nat) : Int))) (nT a b) := fun hno =>
    ih (r, ((m + 1 : Nat) : Int)) ⟨m + 1, rfl, by omega, by dsimp only; omega, h2, fun i j hi hj e => by
     rcases Nat.lt_succ_iff_lt_or_eq.1 hi with hi | rfl
     · exact h3 i j hi hj e
     · exact (hno j hj e).elim⟩ (by dsimp only; omega)
   refine Ok.bd (mJ (by omega) (by omega) ub uw) ?_
   rintro ⟨j, d⟩ hN
   dsimp only at hN ⊢
   by_cases hex : ∃ j : Nat, j < b.length /\ gt a (m : Int) = gt b (j : Int)
   · obtain ⟨j0, hj0, e0⟩ := hex
     obtain ⟨rfl, rfl⟩ := u5 ub uw db hj0 e0.symm hN
     refine Ok.cd (fun h => by have := dcT h; omega) (fun _ => ?_)
     refine Ok.gd (by rw [aJ]; exact decide_eq_true hj0) ?_
     have ub0 := nV ub hj0
     refine Ok.bd (mJ (by omega) (by omega) ua ub0) ?_
     rintro ⟨k, d'⟩ hN'
     dsimp only at hN' ⊢
     obtain ⟨rfl, rfl⟩ := u5 ua ub0 da hlt e0 hN'
     refine Ok.cd (fun _ => ?_) (fun h => by simp at h)
     refine Ok.bd (qo (by omega) (by omega) ub uw) ?_
     intro c1 hc1
     obtain rfl := hc1 rfl
     refine Ok.cd (fun _ => ?_) (fun h => by cases h)
     refine Ok.bd (qo (by omega) (by omega) ua ub0) ?_
     intro c2 hc2
     obtain rfl := hc2 rfl
     refine Ok.cd (fun _ => ?_) (fun h => by cases h)
     refine Ok.gd (decide_eq_true (by omega)) (Ok.gd (decide_eq_true (by omega)) ?_)
     refine ih (_, ((m + 1 : Nat) : Int)) ⟨m + 1, rfl, by omega, by dsimp only; simp; omega, fun q hq hd => ?_, fun i j hi hj e => ?_⟩ (by dsimp only; omega)
     · rcases List.mem_append.1 hq with hq | hq
       · exact h2 q hq hd
       · obtain rfl := List.mem_singleton.1 hq
         exact ⟨m, j0, hlt, hj0, rfl, rfl, e0⟩
     · rcases Nat.lt_succ_iff_lt_or_eq.1 hi with hi | rfl
       · obtain ⟨q, hq, g⟩ := h3 i j hi hj e
         exact ⟨q, List.mem_append.2 (.inl hq), g⟩
       · have := db j0 j hj0 hj (e0.symm.trans e)
         subst this
         exact ⟨_, List.mem_append.2 (.inr (List.mem_singleton.2 rfl)), rfl, rfl, rfl⟩
   · have hno : ∀ j : Nat, j < b.length -> gt a (m : Int) ≠ gt b (j : Int) := fun j hj e => hex ⟨j, hj, e⟩
     refine Ok.cd (fun _ => skip hno) (fun hi => ?_)
     have hi := dcF hi
     obtain ⟨hd0, hk0⟩ := rY ub uw hN
     obtain ⟨k, hk, rfl, hz⟩ := hk0 (by omega)
     have hd : d ≠ 0 := fun e => hno k hk (hz e).symm
     refine Ok.gd (by rw [aJ]; exact decide_eq_true hk) ?_
     have ub0 := nV ub hk
     refine Ok.bd (mJ (by omega) (by omega) ua ub0) ?_
     rintro ⟨k', d'⟩ hN'
     dsimp only at hN' ⊢
     refine Ok.cd (fun _ => ?_) (fun _ => skip hno)
     refine Ok.bd (qo (by omega) (by omega) ub uw) ?_
     intro c1 _
     refine Ok.cd (fun _ => ?_) (fun _ => skip hno)
     refine Ok.bd (qo (by omega) (by omega) ua ub0) ?_
     intro c2 _
     refine Ok.cd (fun _ => ?_) (fun _ => skip hno)
     refine Ok.gd (decide_eq_true (by omega)) (Ok.gd (decide_eq_true (by omega)) ?_)
     refine ih (_, ((m + 1 : Nat) : Int)) ⟨m + 1, rfl, by omega, by dsimp only; simp; omega, fun q hq hq0 => ?_, fun i j hi hj e => ?_⟩ (by dsimp only; omega)
     · rcases List.mem_append.1 hq with hq | hq
       · exact h2 q hq hq0
       · obtain rfl := List.mem_singleton.1 hq
         exact (hd hq0).elim
     · rcases Nat.lt_succ_iff_lt_or_eq.1 hi with hi | rfl
       · obtain ⟨q, hq, g⟩ := h3 i j hi hj e
         exact ⟨q, List.mem_append.2 (.inl hq), g⟩
       · exact (hno j hj e).elim
 · have : m = a.length := by have := dcF h; omega
   subst this
   exact aw.2 ⟨h1, h2, h3⟩
end Go.L


set_option linter.all false
namespace Go.L
open Go Go.Eng
structure qx (V : aa -> Prop) (pix : aa -> ah) : Prop where
 ok : ∀ m, V m -> okM m
 one : ∀ m m', V m -> V m' -> m.Image = m'.Image -> pix m = pix m' -> m = m'
def sD (V : aa -> Prop) (pix : aa -> ah) (t : ai) : Prop := V t.A /\ V t.B /\ t.A.Image < t.B.Image /\ pix t.A = pix t.B /\ t.Cost = 0
def vV (V : aa -> Prop) (pix : aa -> ah) (E : lZ) : Prop := ∀ m m', E m m' -> m = m' \/ (V m /\ V m' /\ pix m = pix m')
theorem se {V : aa -> Prop} {pix : aa -> ah} (h3 : qx V pix) : ∀ (S : Tis) (E : lZ), Eqv E -> vV V pix E -> (∀ t ∈ S, sD V pix t) ->
  vV V pix (S.foldl jB E) /\ (∀ m m', E m m' -> S.foldl jB E m m') /\ ∀ t ∈ S, S.foldl jB E t.A t.B
 | [], E, _, hs, _ => ⟨hs, fun _ _ h => h, fun t ht => by cases ht⟩
 | t :: S, E, hE, hs, hg => by
  obtain ⟨vA, vB, hlt, hp, _⟩ := hg t (by simp)
  have cls : ∀ {x m}, V x -> E x m -> V m /\ pix x = pix m := fun {x m} hx h => by
   rcases hs x m h with rfl | ⟨_, h2, h3⟩
   · exact ⟨hx, rfl⟩
   · exact ⟨h2, h3⟩
  have hs' : vV V pix (jB E t) := by
   rintro m m' (h | ⟨_, ⟨h1, h2⟩ | ⟨h1, h2⟩⟩)
   · exact hs m m' h
   · obtain ⟨a, b⟩ := cls vA (hE.symm h1); obtain ⟨c, d⟩ := cls vB (hE.symm h2)
     exact .inr ⟨a, c, by rw [<- b, <- d, hp]⟩
   · obtain ⟨a, b⟩ := cls vB (hE.symm h1); obtain ⟨c, d⟩ := cls vA (hE.symm h2)
     exact .inr ⟨a, c, by rw [<- b, <- d, hp]⟩
  have hj : jB E t t.A t.B := by
   by_cases hc : pO E t.A t.B
   · obtain ⟨m, m', g1, g2, g3⟩ := hc
     obtain ⟨a, b⟩ := cls vA g1; obtain ⟨c, d⟩ := cls vB g2
     have e : m = m' := h3.one m m' a c g3 (by rw [<- b, <- d, hp])
     subst e
     exact .inl (hE.trans g1 (hE.symm g2))
   · exact .inr ⟨hc, .inl ⟨hE.refl _, hE.refl _⟩⟩
  obtain ⟨r1, r2, r3⟩ := se h3 S (jB E t) (hE.stp t) hs' (fun x hx => hg x (by simp [hx]))
  refine ⟨r1, fun m m' h => r2 m m' (.inl h), fun x hx => ?_⟩
  rcases List.mem_cons.1 hx with rfl | hx
  · exact r2 _ _ hj
  · exact r3 x hx
theorem xw {V : aa -> Prop} {pix : aa -> ah} (h3 : qx V pix) {L : Tis} (hl : L.length <= 256) (hg : ∀ t ∈ L, sD V pix t) : nt L = 0 /\ ∀ t ∈ L, okT t := by
 have h : ∀ t ∈ L, okT t := fun t ht => by
  obtain ⟨a, b, c, d, e⟩ := hg t ht
  exact ⟨h3.ok _ a, h3.ok _ b, by omega, c⟩
 refine ⟨?_, h⟩
 unfold nt
 rw [if_neg (by omega)]
 exact mH.2 h
theorem zF {V : aa -> Prop} {pix : aa -> ah} (h3 : qx V pix) {S : Tis} (hg : ∀ t ∈ S, sD V pix t) (hall : ∀ m m', V m -> V m' -> m.Image < m'.Image -> pix m = pix m' -> ∃ t ∈ S, t.A = m /\ t.B = m') (m m' : aa) :
  jo S m m' ↔ m = m' \/ (V m /\ V m' /\ pix m = pix m') := by
 obtain ⟨r1, r2, r3⟩ := se h3 S Eq Eqv.eq (fun _ _ h => .inl h) hg
 refine ⟨r1 m m', ?_⟩
 have hE := xA S
 rintro (rfl | ⟨a, b, c⟩)
 · exact hE.refl _
 · rcases Int.lt_trichotomy m.Image m'.Image with h | h | h
   · obtain ⟨t, ht, rfl, rfl⟩ := hall m m' a b h c
     exact r3 t ht
   · rw [h3.one m m' a b h c]; exact hE.refl _
   · obtain ⟨t, ht, rfl, rfl⟩ := hall m' m b a h c.symm
     exact hE.symm (r3 t ht)
theorem uZ {V : aa -> Prop} {pix : aa -> ah} (h3 : qx V pix) {n : Nat} (hn : 1024 < n) {L : Tis} (hl : L.length <= 256) (hg : ∀ t ∈ L, sD V pix t) (hall : ∀ m m', V m -> V m' -> m.Image < m'.Image -> pix m = pix m' -> ∃ t ∈ L, t.A = m /\ t.B = m') :
  Ok (gr n L) (fun o => o.2 = 0 /\ Canon (fun m m' => m = m' \/ (V m /\ V m' /\ pix m = pix m')) (fun m => ∃ m', V m /\ V m' /\ m ≠ m' /\ pix m = pix m') o.1) /\ Ok (fS n L) (fun o => o.2 = 0 /\ o.1.length = 0) := by
 obtain ⟨hc, hv⟩ := xw h3 hl hg
 obtain ⟨s1, s2, s3⟩ := qk hv
 have hg' : ∀ t ∈ km L, sD V pix t := fun t ht => hg t ((s2 t).1 ht)
 have hall' : ∀ m m', V m -> V m' -> m.Image < m'.Image -> pix m = pix m' -> ∃ t ∈ km L, t.A = m /\ t.B = m' := fun m m' a b c d => by
  obtain ⟨t, ht, e⟩ := hall m m' a b c d
  exact ⟨t, (s2 t).2 ht, e⟩
 have hR := zF h3 hg' hall'
 constructor
 · refine (Ap hn hc).mono ?_
   rintro ⟨ts, c⟩ ⟨e, hC⟩
   refine ⟨e, ?_⟩
   have e1 : jo (km L) = fun m m' => m = m' \/ (V m /\ V m' /\ pix m = pix m') := by funext m m'; exact propext (hR m m')
   have e2 : iI (km L) = fun m => ∃ m', V m /\ V m' /\ m ≠ m' /\ pix m = pix m' := by
    funext m
    apply propext
    constructor
    · rintro ⟨t, ht, rfl | rfl⟩
      · obtain ⟨a, b, c, d, _⟩ := hg' t ht
        exact ⟨t.B, a, b, fun e => by rw [e] at c; omega, d⟩
      · obtain ⟨a, b, c, d, _⟩ := hg' t ht
        exact ⟨t.A, b, a, fun e => by rw [e] at c; omega, d.symm⟩
    · rintro ⟨m', a, b, c, d⟩
      rcases Int.lt_trichotomy m.Image m'.Image with h | h | h
      · obtain ⟨t, ht, e, _⟩ := hall' m m' a b h d
        exact ⟨t, ht, .inl e.symm⟩
      · exact (c (h3.one m m' a b h d)).elim
      · obtain ⟨t, ht, _, e⟩ := hall' m' m b a h d.symm
        exact ⟨t, ht, .inr e.symm⟩
   rwa [e1, e2] at hC
 · refine (xR hn hc).mono ?_
   rintro ⟨o, c⟩ ⟨e, _, hm, _⟩
   refine ⟨e, ?_⟩
   cases o with
   | nil => rfl
   | cons t o =>
    obtain ⟨ht, hn⟩ := (hm t).1 (by simp)
    obtain ⟨a, b, _, d, _⟩ := hg' t ht
    exact (hn ((hR _ _).2 (.inr ⟨a, b, d⟩))).elim
end Go.L

