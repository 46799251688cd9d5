import Derived.Test.YtecdcgfclgmbpaaGreatApaL51sc
import Derived.Test.YtecdcgfclgmbpaaGreatApaLsrt
import Derived.Test.YtecdcgfclgmbpaaGreatApaL51sc
set_option linter.all false
namespace Go.L
open Go Go.Eng
theorem sL {Z : List Int} {level : Int} {e : K2} (h : gt Z e.e0 ≠ gt Z e.e1) : crE Z level e * ((2 * (gt Z e.e1 - gt Z e.e0) : Int) : Rat) = ((level - 2 * gt Z e.e0 : Int) : Rat) := by
 unfold crE
 have hd : 2 * (gt Z e.e1 - gt Z e.e0) ≠ 0 := by omega
 generalize 2 * (gt Z e.e1 - gt Z e.e0) = D at *
 generalize level - 2 * gt Z e.e0 = A
 rw [<- jR D, <- jR A, Rat.divInt_mul_divInt, Int.mul_comm D 1, Rat.divInt_mul_right hd]
theorem wC {Z : List Int} {level : Int} {e : K2} (z : level.tmod 2 ≠ 0) (j : abv Z level e.e0 ≠ abv Z level e.e1) : 0 < crE Z level e /\ crE Z level e < 1 := by
 have m : gt Z e.e0 ≠ gt Z e.e1 := fun h => j (by unfold abv; rw [h])
 have J := sL (level := level) m
 have M : 2 * gt Z e.e0 ≠ level := fun h => z (by rw [<- h]; exact Int.mul_tmod_right 2 _)
 have N : 2 * gt Z e.e1 ≠ level := fun h => z (by rw [<- h]; exact Int.mul_tmod_right 2 _)
 unfold abv at j
 generalize crE Z level e = r at *
 have two : (2 * gt Z e.e0 > level /\ 2 * gt Z e.e1 < level) \/ (2 * gt Z e.e0 < level /\ 2 * gt Z e.e1 > level) := by
  by_cases q : 2 * gt Z e.e0 > level <;> by_cases h1 : 2 * gt Z e.e1 > level <;> simp [q, h1] at j <;> omega
 have E : ((2 * (gt Z e.e1 - gt Z e.e0) : Int) : Rat) = ((level - 2 * gt Z e.e0 : Int) : Rat) + ((2 * gt Z e.e1 - level : Int) : Rat) := by rw [<- Rat.intCast_add]; congr 1; omega
 generalize ((2 * (gt Z e.e1 - gt Z e.e0) : Int) : Rat) = D at *
 rcases two with ⟨q, h1⟩ | ⟨q, h1⟩
 · have a := BU (v := level - 2 * gt Z e.e0) (by omega); have b := BU (v := 2 * gt Z e.e1 - level) (by omega)
   generalize ((level - 2 * gt Z e.e0 : Int) : Rat) = A at *
   generalize ((2 * gt Z e.e1 - level : Int) : Rat) = C at *
   have I : D < 0 := by grind
   constructor
   · apply Classical.byContradiction
     intro k
     have : 0 <= (-r) * (-D) := Rat.mul_nonneg (by grind) (by grind)
     grind
   · apply Classical.byContradiction
     intro k
     have : 0 <= (r - 1) * (-D) := Rat.mul_nonneg (by grind) (by grind)
     grind
 · have a := yb (v := level - 2 * gt Z e.e0) (by omega); have b := yb (v := 2 * gt Z e.e1 - level) (by omega)
   generalize ((level - 2 * gt Z e.e0 : Int) : Rat) = A at *
   generalize ((2 * gt Z e.e1 - level : Int) : Rat) = C at *
   have I : 0 < D := by grind
   constructor
   · apply Classical.byContradiction
     intro k
     have : 0 <= (-r) * D := Rat.mul_nonneg (by grind) (by grind)
     grind
   · apply Classical.byContradiction
     intro k
     have : 0 <= (r - 1) * D := Rat.mul_nonneg (by grind) (by grind)
     grind
def uX (w : Nat) (Z : List Int) (level : Int) (e : K2) : Rat := ((e.e0.tmod (w : Int) : Int) : Rat) + crE Z level e * ((e.e1.tmod (w : Int) - e.e0.tmod (w : Int) : Int) : Rat)
def uY (w : Nat) (Z : List Int) (level : Int) (e : K2) : Rat := ((e.e0.tdiv (w : Int) : Int) : Rat) + crE Z level e * ((e.e1.tdiv (w : Int) - e.e0.tdiv (w : Int) : Int) : Rat)
theorem BA {w j i : Nat} (hi : i < w) : (cel w j i).tmod (w : Int) = (i : Int) := by
 unfold cel
 rw [Int.tmod_eq_emod_of_nonneg (by omega), <- Int.natCast_emod, Nat.mul_comm j w, Nat.mul_add_mod, Nat.mod_eq_of_lt hi]
theorem Bv {w j i : Nat} (hi : i < w) : (cel w j i).tdiv (w : Int) = (j : Int) := by
 unfold cel
 rw [Int.tdiv_eq_ediv_of_nonneg (by omega), <- Int.natCast_ediv, Nat.mul_comm j w, Nat.mul_add_div (by omega), Nat.div_eq_of_lt hi, Nat.add_zero]
section
variable {w : Nat} {Z : List Int} {level : Int}
theorem F8 {j i j' m : Nat} (hi : i < w) (q : m < w) : uX w Z level (A2.mk (cel w j i) (cel w j' m)) = ((i : Int) : Rat) + crE Z level (A2.mk (cel w j i) (cel w j' m)) * (((m : Int) - (i : Int) : Int) : Rat) /\
  uY w Z level (A2.mk (cel w j i) (cel w j' m)) = ((j : Int) : Rat) + crE Z level (A2.mk (cel w j i) (cel w j' m)) * (((j' : Int) - (j : Int) : Int) : Rat) := by
 unfold uX uY
 dsimp only
 rw [BA hi, BA q, Bv hi, Bv q]
 exact ⟨rfl, rfl⟩
theorem BV {a : Int} {r : Rat} : (a : Rat) + r * ((a - a : Int) : Rat) = (a : Rat) := by
 rw [Int.sub_self, Rat.intCast_zero, Rat.mul_zero]; grind
def cO (w : Nat) (Z : List Int) (level : Int) (oi oj : Nat) (q : K2 × K2) : Int := ctr (uX w Z level q.1 - ((oi : Int) : Rat)) (uY w Z level q.1 - ((oj : Int) : Rat)) (uX w Z level q.2 - ((oi : Int) : Rat)) (uY w Z level q.2 - ((oj : Int) : Rat))
def cT (w : Nat) (Z : List Int) (level : Int) (oi oj : Nat) (t : A3 Int) : Int := match seg Z level t with | some q => cO w Z level oi oj q | none => 0
def b2 (b : Bool) : Int := if b = true then 1 else 0
theorem Hv (t : A3 Int) : seg Z level t = CS (stp Z level (stp Z level (stp Z level (0, 0, 0, 0, false) t.e0 t.e1) t.e1 t.e2) t.e2 t.e0) := rfl
theorem xN {a b : Int} (h : a < b) : mn a b = a /\ mx a b = b /\ mn b a = a /\ mx b a = b := by
 unfold mn mx
 rw [if_neg (by omega), if_pos h, if_pos h, if_neg (by omega)]
 exact ⟨rfl, rfl, rfl, rfl⟩
theorem yr {j i : Nat} : cel w j i < cel w j (i + 1) /\ (0 < w -> cel w j i < cel w (j + 1) i) /\ cel w j i < cel w (j + 1) (i + 1) := by
 have a := x7 (w := w) (j := j) (i := i); have b := Ap (w := w) (j := j) (i := i); have c := x7 (w := w) (j := j + 1) (i := i)
 omega
theorem Fg {j i : Nat} : loT (cel w j i) w = A3.mk (cel w j i) (cel w j (i + 1)) (cel w (j + 1) (i + 1)) := by
 unfold loT
 have a := x7 (w := w) (j := j) (i := i); have b := Ap (w := w) (j := j) (i := i + 1)
 congr 1 <;> omega
theorem EH {j i : Nat} : upT (cel w j i) w = A3.mk (cel w j i) (cel w (j + 1) (i + 1)) (cel w (j + 1) i) := by
 unfold upT
 have a := Ap (w := w) (j := j) (i := i); have b := x7 (w := w) (j := j + 1) (i := i)
 congr 1 <;> omega
end
end Go.L


set_option linter.all false
namespace Go.L
open Go Go.Eng
structure Ce (g : al) (w h : Nat) (level : Int) (e : K2) : Prop where
 cr : Cr g.Z level e
 ab : abv g.Z level e.e0 ≠ abv g.Z level e.e1
 ed : rp (lD g w h) e.e0 e.e1 = true
theorem yw {g : al} {level : Int} {w h : Nat} (J : Gd g w h) (hb : g.Z.any p4 = false) : Ge (mq g w h level) (Ce g w h level) := by
 refine ⟨fun q j => ?_⟩
 have hc := (Bn J hb).k q j
 unfold mq at j
 obtain ⟨t, M, e⟩ := List.mem_filterMap.1 j
 have mk : ∀ {a b : Int} {e : K2}, e = A2.mk (mn a b) (mx a b) -> (a, b) ∈ dE t -> abv g.Z level a ≠ abv g.Z level b -> Cr g.Z level e -> Ce g w h level e := by
  rintro a b e rfl hm z hc
  have C := hc.lt
  refine ⟨hc, ?_, ?_⟩
  · dsimp only
    unfold mn mx
    by_cases h1 : b < a
    · rw [if_pos h1, if_neg (by omega)]; exact fun k => z k.symm
    · by_cases h2 : a < b
      · rw [if_neg h1, if_pos h2]; exact z
      · have : a = b := by omega
        exact absurd (by rw [this]) z
  · unfold rp
    rw [decide_eq_true C, Bool.true_and, List.any_eq_true]
    refine ⟨t, M, ?_⟩
    rw [Bool.and_eq_true, oA, oA]
    dsimp only
    simp only [dE, List.mem_cons, List.not_mem_nil, or_false, Prod.mk.injEq] at hm
    unfold mn mx
    rcases hm with ⟨rfl, rfl⟩ | ⟨rfl, rfl⟩ | ⟨rfl, rfl⟩ <;> constructor <;> split <;> simp
 obtain ⟨⟨a, b, m, h1, h2, N⟩, c, d, O, D, E, I⟩ := sJ e
 exact ⟨mk N m (by rw [h1, h2]; simp) hc.1, mk I O (by rw [D, E]; simp) hc.2⟩
section
variable {g : al} {level : Int} {w h : Nat}
def xG (g : al) (level : Int) (e : K2) : Rat := pG (crE g.Z level e) (pxG g e.e0) (pxG g e.e1)
def yG (g : al) (level : Int) (e : K2) : Rat := pG (crE g.Z level e) (pyG g e.e0) (pyG g e.e1)
theorem uw {f : an -> Option (ar × Int)} {cr : K2 -> an} {pl : K2 -> ar} : ∀ (l : List K2) (out : List ar), (∀ e ∈ l, f (cr e) = some (pl e, 0)) -> jD f (l.map cr) out = some (out ++ l.map pl, 0)
 | [], out, _ => by simp [jD]
 | e :: l, out, h => by
  rw [List.map_cons, jD, h e (by simp)]
  show jD f (l.map cr) (out ++ [pl e]) = _
  rw [uw l _ fun x hx => h x (List.mem_cons_of_mem _ hx), List.append_assoc]; rfl
theorem w9 {r : Rat} {X0 a b o St : Int} : pG r (X0 + a * St) (X0 + b * St) - Rat.divInt (X0 + o * St) 1 = (St : Rat) * (((a : Rat) + r * ((b - a : Int) : Rat)) - (o : Rat)) := by
 unfold pG
 rw [jR, jR, jR, show X0 + b * St - (X0 + a * St) = (b - a) * St by rw [Int.sub_mul]; omega]
 simp only [Rat.intCast_add, Rat.intCast_mul]
 grind
theorem GF (j : Gd g w h) {e : K2} {o : Int} : xG g level e - Rat.divInt (g.X0 + o * g.Step) 1 = (g.Step : Rat) * (uX w g.Z level e - (o : Rat)) := by
 unfold xG pxG uX
 rw [w9, j.W]
theorem GJ (j : Gd g w h) {e : K2} {o : Int} : yG g level e - Rat.divInt (g.Y0 + o * g.Step) 1 = (g.Step : Rat) * (uY w g.Z level e - (o : Rat)) := by
 unfold yG pyG uY
 rw [w9, j.W]
end
end Go.L


set_option linter.all false
namespace Go.L
open Go Go.Eng
section
variable {S : List (K2 × K2)}
theorem wF : ∀ {l m : List K2}, l.Nodup -> (∀ x ∈ l, x ∈ m) -> l.length <= m.length
 | [], _, _, _ => Nat.zero_le _
 | x :: l, m, j, hs => by
  rw [List.nodup_cons] at j
  have hx := hs x (by simp)
  have := wF (m := m.erase x) j.2 fun y q => (List.mem_erase_of_ne (fun (e : y = x) => j.1 (by rw [<- e]; exact q))).2 (hs y (List.mem_cons_of_mem _ q))
  rw [List.length_erase_of_mem hx] at this
  have : 0 < m.length := List.length_pos_of_mem hx
  rw [List.length_cons]; omega
theorem CC {l m : List K2} (q : l.Nodup) (hs : ∀ x ∈ l, x ∈ m) (z : m.length <= l.length) : ∀ x ∈ m, x ∈ l := by
 intro y j
 apply Classical.byContradiction
 intro hc
 have := wF (m := m.erase y) q fun x hx => (List.mem_erase_of_ne (fun (e : x = y) => hc (by rw [<- e]; exact hx))).2 (hs x hx)
 rw [List.length_erase_of_mem j] at this
 have : 0 < m.length := List.length_pos_of_mem j
 omega
theorem Ef (hp : S.Pairwise Rq) (E : S.length <= 60) {cr : K2 -> an} : ∀ (L pre : List K2) (c : List (K2 × Bool) × List ak), Op S cr pre c -> (pre.flatMap (path S)).Nodup -> (pre ++ L).Nodup -> (∀ e ∈ L, isS S e) ->
  ∃ N, Op S cr (pre ++ L) N /\ ((pre ++ L).flatMap (path S)).Nodup
 | [], pre, c, h, m, _, _ => by rw [List.append_nil]; exact ⟨c, h, m⟩
 | e :: L, pre, c, h, m, I, hs => by
  have j : e ∉ pre := fun k => (List.nodup_append.1 I).2.2 _ k _ (by simp) rfl
  obtain ⟨hd, J, O⟩ := h.step hp E (hs e (by simp)) j
  have q : ((pre ++ [e]).flatMap (path S)).Nodup := by
   rw [List.flatMap_append, List.flatMap_cons, List.flatMap_nil, List.append_nil]
   refine List.nodup_append.2 ⟨m, ?_, fun x hx y M z => ?_⟩
   · rw [<- J]; exact ve 100 _ e
   · subst z
     rw [<- J] at M
     have h1 := yV 100 _ e x M
     obtain ⟨T, C, D⟩ := List.mem_flatMap.1 hx
     rw [(h.mem x).2 ⟨T, C, D⟩] at h1; cases h1
  have := Ef hp E L (pre ++ [e]) _ O q (by rw [List.append_assoc]; exact I) fun x hx => hs x (List.mem_cons_of_mem _ hx)
  rw [List.append_assoc] at this
  exact this
theorem zV (hp : S.Pairwise Rq) {e : K2} (h : e ∈ opK S) : isS S e := by
 have := (List.mem_filter.1 h).2
 unfold opn bk at this
 exact vX hp (by simpa using this)
theorem F1 (hp : S.Pairwise Rq) : (stK S).Nodup := by
 unfold stK
 refine (tI _ _).nodup_iff.2 ?_
 unfold List.Nodup; rw [List.pairwise_map]; exact hp.imp fun h => h.1
theorem z8 (hp : S.Pairwise Rq) (j : S.length <= 60) : Cl S (dnK S) /\ ((opK S).flatMap (path S)).Nodup := by
 obtain ⟨c, h1, h2⟩ := Ef hp j (cr := fun _ => default) (opK S) [] ([], []) DY .nil (by rw [List.nil_append]; exact (F1 hp).sublist List.filter_sublist) fun e he => zV hp he
 rw [List.nil_append] at h1 h2
 refine ⟨?_, h2⟩
 rw [<- h1.FB fun _ => Iff.rfl]
 exact h1.cl
theorem D1 (hp : S.Pairwise Rq) (hS : S.length <= 60) : Led S (dnK S) := by
 obtain ⟨hC, -⟩ := z8 hp hS
 let T := S.filter fun q => !dnK S q.1
 have U : ∀ q ∈ T, q ∈ S /\ dnK S q.1 = false := fun q D => by
  have := List.mem_filter.1 D
  exact ⟨this.1, by simpa using this.2⟩
 have pT : T.Pairwise Rq := hp.sublist List.filter_sublist
 have n1 : (T.map (·.1)).Nodup := by unfold List.Nodup; rw [List.pairwise_map]; exact pT.imp fun h => h.1
 have Y : ∀ q ∈ S, nxt S q.1 = q.2 := fun q D => vz (hp.imp fun h => h.1) D
 have sub : ∀ x ∈ T.map (·.1), x ∈ T.map (·.2) := by
  intro x hx
  obtain ⟨q, D, rfl⟩ := List.mem_map.1 hx
  obtain ⟨I, hd⟩ := U q D
  have J : q.1 ∉ opK S := fun k => by
   have : dnK S q.1 = true := uU.2 ⟨q.1, k, by obtain ⟨t, ht⟩ := oE (S := S) (e := q.1); rw [ht]; simp⟩
   rw [this] at hd; cases hd
  have M : q.1 ∈ stK S := vg.2 (iq.2 ⟨q, I, rfl⟩)
  have hb : getM false (bk S) q.1 = true := by
   cases hc : getM false (bk S) q.1 with
   | true => rfl
   | false => exact absurd (List.mem_filter.2 ⟨M, by unfold opn; rw [hc]; rfl⟩) J
  have hm : ∃ p ∈ bk S, p.1 = q.1 := by
   apply Classical.byContradiction
   intro hc
   have : cD (bk S) q.1 = false := by
    cases hk : cD (bk S) q.1 with
    | false => rfl
    | true => exact absurd (iq.1 hk) hc
   rw [getM_none this] at hb; cases hb
  obtain ⟨p, E, C⟩ := hm
  unfold bk at E
  obtain ⟨j, m, rfl⟩ := List.mem_map.1 E
  have C : j.2 = q.1 := C
  refine List.mem_map.2 ⟨j, List.mem_filter.2 ⟨m, ?_⟩, C⟩
  have N : cD S j.1 = true := iq.2 ⟨j, m, rfl⟩
  have := hC j.1 N
  rw [show getM (A2.mk 0 0) S j.1 = q.1 by rw [<- C]; exact Y j m, hd] at this
  cases hc : dnK S j.1 with
  | false => rfl
  | true => have := this.1 hc; cases this
 have all := CC n1 sub (by rw [List.length_map, List.length_map]; exact Nat.le_refl _)
 intro x hx hd
 obtain ⟨q, D, rfl⟩ := iq.1 hx
 have O : q ∈ T := List.mem_filter.2 ⟨D, by rw [hd]; rfl⟩
 obtain ⟨j, m, e⟩ := List.mem_map.1 (all q.2 (List.mem_map.2 ⟨q, O, rfl⟩))
 obtain ⟨a, b⟩ := U j m
 rw [Y q D, <- e]
 exact ⟨iq.2 ⟨j, a, rfl⟩, b⟩
where
 getM_none {κ α : Type} [DecidableEq κ] {z : α} {x : κ} : ∀ {l : List (κ × α)}, cD l x = false -> getM z l x = z := by
  intro l
  induction l with
  | nil => intro _; rfl
  | cons p l ih =>
   intro h
   unfold cD at h
   unfold getM
   simp_all
   rw [show (x == p.1) = false by simpa using h.1]; rfl
structure Lin (S : List (K2 × K2)) (x : Ln) : Prop where
 nd : x.2.Nodup
 go : ∀ k, k < x.2.length -> (((k + 1) % x.2.length > 0 \/ x.1 = true) ↔ cD S (x.2.getD k (A2.mk 0 0)) = true) /\ (cD S (x.2.getD k (A2.mk 0 0)) = true -> x.2.getD ((k + 1) % x.2.length) (A2.mk 0 0) = nxt S (x.2.getD k (A2.mk 0 0)))
theorem DM {z : K2} : ∀ (f : Nat) (D : K2 -> Bool) (e : K2) (k : Nat), k + 1 < (W S f D e).length -> cD S ((W S f D e).getD k z) = true
 | 0, D, e, k, h => by simp [W] at h
 | f + 1, D, e, k, h => by
  unfold W at h ⊢
  by_cases m : D e = true
  · rw [if_pos m] at h; simp at h
  · rw [if_neg m] at h ⊢
    by_cases j : cD S e = true
    · rw [if_pos j] at h ⊢
      rw [List.length_cons] at h
      cases k with
      | zero => exact j
      | succ k => exact DM f _ _ k (by omega)
    · rw [if_neg j] at h; simp at h
theorem DB (hp : S.Pairwise Rq) (O : S.length <= 60) {e : K2} (he : isS S e) : Lin S (false, path S e) := by
 have j := AA (S := S) (z := A2.mk 0 0) 100 (fun _ => false) e
 have q := DM (S := S) (z := A2.mk 0 0) 100 (fun _ => false) e
 have I := ve (S := S) 100 (fun _ => false) e
 have C := fun x => yp (S := S) 100 (fun _ => false) e x (nxt S x) (by have := w7 S (fun _ => false); omega)
 have J := BN (S := S) (z := A2.mk 0 0) (f := 100) (D := fun _ => false) (e := e)
 refine ⟨I, ?_⟩
 show ∀ k, k < (W S 100 (fun _ => false) e).length -> _
 show ∀ k, k < (W S 100 (fun _ => false) e).length -> (((k + 1) % (W S 100 (fun _ => false) e).length > 0 \/ false = true) ↔ cD S ((W S 100 (fun _ => false) e).getD k (A2.mk 0 0)) = true) /\ (cD S ((W S 100 (fun _ => false) e).getD k (A2.mk 0 0)) = true -> (W S 100 (fun _ => false) e).getD ((k + 1) % (W S 100 (fun _ => false) e).length) (A2.mk 0 0) = nxt S ((W S 100 (fun _ => false) e).getD k (A2.mk 0 0)))
 generalize W S 100 (fun _ => false) e = l at *
 intro k N
 by_cases E : k + 1 < l.length
 · rw [Nat.mod_eq_of_lt E]
   exact ⟨⟨fun _ => q k E, fun _ => .inl (by omega)⟩, fun _ => j k E⟩
 · have e1 : k + 1 = l.length := by omega
   rw [e1, Nat.mod_self]
   have M : cD S (l.getD k (A2.mk 0 0)) = false := by
    cases hc : cD S (l.getD k (A2.mk 0 0)) with
    | false => rfl
    | true =>
     rcases C _ (nf N _) hc rfl with h1 | h1
     · obtain ⟨m, hm, em⟩ := sX h1 (A2.mk 0 0)
       cases m with
       | zero =>
        rw [J (by omega)] at em
        exact absurd em.symm (he _ hc)
       | succ m =>
        rw [j m hm] at em
        have := u4 hp (q m hm) hc em
        have := getD_inj I (by omega) N this
        omega
     · cases h1
   rw [M]
   exact ⟨⟨fun h => (by rcases h with h | h <;> simp at h), fun h => by cases h⟩, fun h => by cases h⟩
theorem ER {l : List K2} (h : Cyc S l) : Lin S (true, l) :=
 ⟨h.nd, fun k j => ⟨⟨fun _ => h.st _ (nf j _), fun _ => .inr rfl⟩, fun _ => h.go k j⟩⟩
def pcs (S : List (K2 × K2)) (x : Ln) : List (K2 × K2) := (x.2.filter (cD S)).map fun e => (e, nxt S e)
def uM (S : List (K2 × K2)) : List (K2 × K2) := (pr S).flatMap (pcs S)
theorem u7 (hp : S.Pairwise Rq) (m : S.length <= 60) : (∀ x ∈ pr S, Lin S x) /\ ((uM S).map (·.1)).Nodup /\ ∀ q ∈ uM S, q ∈ S := by
 obtain ⟨E, I⟩ := z8 hp m
 have J := D1 hp m
 obtain ⟨a, b, c, d⟩ := wc hp m (stK S) (dnK S) E J fun e he => vg.1 he
 refine ⟨fun x hx => ?_, ?_, fun q z => ?_⟩
 · rcases vh.1 hx with ⟨e, he, rfl⟩ | ⟨l, C, rfl⟩
   · exact DB hp m (zV hp he)
   · exact ER (d l C)
 · have e1 : (uM S).map (·.1) = ((pr S).flatMap (·.2)).filter (cD S) := by
    unfold uM
    rw [List.map_flatMap, List.filter_flatMap]
    congr 1
    funext x
    unfold pcs
    rw [List.map_map]
    show (x.2.filter (cD S)).map (fun e => e) = _
    rw [List.map_id']
   rw [e1]
   refine List.Nodup.sublist List.filter_sublist ?_
   have j : ((pr S).flatMap (·.2)).Perm ((uK S (opK S)).flatMap (·.2)) := (tI _ _).flatMap_right _
   refine j.nodup_iff.2 ?_
   unfold uK
   rw [List.flatMap_append, List.flatMap_map, List.flatMap_map]
   refine List.nodup_append.2 ⟨I, ?_, fun x hx y D e => ?_⟩
   · have : (CLs S (stK S) (dnK S)).flatMap (fun l => l) = (CLs S (stK S) (dnK S)).flatten := by rw [List.flatMap_def, List.map_id']
     show ((CLs S (stK S) (dnK S)).flatMap fun l => l).Nodup
     rw [this]; exact a
   · subst e
     obtain ⟨l, C, D⟩ := List.mem_flatMap.1 D
     have h1 := b x (List.mem_flatten.2 ⟨l, C, D⟩)
     obtain ⟨e, he, hx⟩ := List.mem_flatMap.1 hx
     rw [uU.2 ⟨e, he, hx⟩] at h1; cases h1
 · obtain ⟨x, hx, z⟩ := List.mem_flatMap.1 z
   obtain ⟨e, he, rfl⟩ := List.mem_map.1 z
   exact ox (List.mem_filter.1 he).2
end
end Go.L


set_option linter.all false
namespace Go.L
open Go Go.Eng
abbrev R2 := Rat × Rat
def cr3 (a b p : R2) : Rat := crQ (a.1 - p.1) (a.2 - p.2) (b.1 - p.1) (b.2 - p.2)
def on3 (a b p : R2) : Bool := onQ (a.1 - p.1) (a.2 - p.2) (b.1 - p.1) (b.2 - p.2)
structure NM (a b c d : R2) : Prop where
 hx : ¬ (cr3 a b c * cr3 a b d < 0 /\ cr3 c d a * cr3 c d b < 0)
 hc : on3 a b c = false
 hd : on3 a b d = false
 ha : on3 c d a = false
 hb : on3 c d b = false
theorem NM.symm {a b c d : R2} (h : NM a b c d) : NM c d a b := ⟨fun k => h.hx ⟨k.2, k.1⟩, h.ha, h.hb, h.hc, h.hd⟩
def fL (α β γ : Rat) (p : R2) : Rat := α * p.1 + β * p.2 + γ
theorem yd {x y : Rat} (h : x ≠ 0 \/ y ≠ 0) : 0 < x * x + y * y := by
 have a := sq_nonneg x; have b := sq_nonneg y
 rcases h with h | h
 · have := qA h h; grind
 · have := qA h h; grind
theorem xZ {α β γ : Rat} {a b p : R2} (ha : 0 <= fL α β γ a) (hb : 0 <= fL α β γ b) (a5 : 0 < fL α β γ a \/ 0 < fL α β γ b) (hp : fL α β γ p <= 0) (na : fL α β γ a = 0 -> fL α β γ p = 0 -> a ≠ p) (nb : fL α β γ b = 0 -> fL α β γ p = 0 -> b ≠ p) : on3 a b p = false := by
 cases T : on3 a b p with
 | false => rfl
 | true =>
  exfalso
  obtain ⟨J, M⟩ := a; obtain ⟨N, b2⟩ := b; obtain ⟨C, E⟩ := p
  unfold on3 at T
  unfold fL at *
  dsimp only at *
  obtain ⟨hc, hx, hy⟩ := GA.1 T
  have ev : α * (J - C) + β * (M - E) = (α * J + β * M + γ) - (α * C + β * E + γ) := by grind
  have ew : α * (N - C) + β * (b2 - E) = (α * N + β * b2 + γ) - (α * C + β * E + γ) := by grind
  have a3 : J - C = 0 -> M - E = 0 -> (J, M) = (C, E) := fun h k => by rw [show J = C by grind, show M = E by grind]
  have a4 : N - C = 0 -> b2 - E = 0 -> (N, b2) = (C, E) := fun h k => by rw [show N = C by grind, show b2 = E by grind]
  generalize α * J + β * M + γ = A at *
  generalize α * N + β * b2 + γ = B at *
  generalize α * C + β * E + γ = Q at *
  generalize J - C = j at *
  generalize M - E = m at *
  generalize N - C = q at *
  generalize b2 - E = z at *
  have hc : j * z - m * q = 0 := hc
  have hd : j * q + m * z <= 0 := by grind
  have U : (B - Q) * (j * j + m * m) = (j * q + m * z) * (A - Q) := by rw [<- ev, <- ew]; grind
  have Y : (A - Q) * (q * q + z * z) = (j * q + m * z) * (B - Q) := by rw [<- ev, <- ew]; grind
  generalize hD : j * q + m * z = D at *
  have sv : A - Q ≠ 0 -> j ≠ 0 \/ m ≠ 0 := fun h => by
   apply Classical.byContradiction
   intro k
   have U : j = 0 := by apply Classical.byContradiction; intro h; exact k (.inl h)
   have Y : m = 0 := by apply Classical.byContradiction; intro h; exact k (.inr h)
   rw [U, Y] at ev; exact h (by grind)
  have sw : B - Q ≠ 0 -> q ≠ 0 \/ z ≠ 0 := fun h => by
   apply Classical.byContradiction
   intro k
   have U : q = 0 := by apply Classical.byContradiction; intro h; exact k (.inl h)
   have Y : z = 0 := by apply Classical.byContradiction; intro h; exact k (.inr h)
   rw [U, Y] at ew; exact h (by grind)
  by_cases a0 : 0 < A - Q /\ 0 < B - Q
  · have hv := yd (sv (by grind))
    have m1 := nN a0.2 hv
    have m2 : 0 <= (-D) * (A - Q) := Rat.mul_nonneg (by grind) (by grind)
    grind
  · have hQ : Q = 0 := by grind
    by_cases hA : A = 0
    · have hB : 0 < B := by grind
      have hw := yd (sw (by grind))
      have I : D = 0 := by
       apply Classical.byContradiction
       intro O
       have := qA O (show B - Q ≠ 0 by grind)
       rw [<- Y, hA, hQ] at this
       grind
      have z1 : j * (q * q + z * z) = D * q := by rw [<- hD]; grind
      have z2 : m * (q * q + z * z) = D * z := by rw [<- hD]; grind
      have v1 : j = 0 := by
       apply Classical.byContradiction; intro h
       have := qA h (show q * q + z * z ≠ 0 by grind); rw [z1, I] at this; grind
      have v2 : m = 0 := by
       apply Classical.byContradiction; intro h
       have := qA h (show q * q + z * z ≠ 0 by grind); rw [z2, I] at this; grind
      exact na hA hQ (a3 v1 v2)
    · have hB : B = 0 := by grind
      have hv := yd (sv (by grind))
      have I : D = 0 := by
       apply Classical.byContradiction
       intro O
       have := qA O (show A - Q ≠ 0 by grind)
       rw [<- U, hB, hQ] at this
       grind
      have z1 : q * (j * j + m * m) = D * j := by rw [<- hD]; grind
      have z2 : z * (j * j + m * m) = D * m := by rw [<- hD]; grind
      have v1 : q = 0 := by
       apply Classical.byContradiction; intro h
       have := qA h (show j * j + m * m ≠ 0 by grind); rw [z1, I] at this; grind
      have v2 : z = 0 := by
       apply Classical.byContradiction; intro h
       have := qA h (show j * j + m * m ≠ 0 by grind); rw [z2, I] at this; grind
      exact nb hB hQ (a4 v1 v2)
theorem yi {α β γ : Rat} {p : R2} : fL (-α) (-β) (-γ) p = -fL α β γ p := by unfold fL; grind
theorem zW {x y : Rat} (h : x * y < 0) : (0 < x /\ y < 0) \/ (x < 0 /\ 0 < y) := by
 rcases CU x with a | a | a <;> rcases CU y with b | b | b
 · have := Da a b; grind
 · rw [b, Rat.mul_zero] at h; grind
 · exact .inr ⟨a, b⟩
 · rw [a, Rat.zero_mul] at h; grind
 · rw [a, Rat.zero_mul] at h; grind
 · rw [a, Rat.zero_mul] at h; grind
 · exact .inl ⟨a, b⟩
 · rw [b, Rat.mul_zero] at h; grind
 · have := nN a b; grind
theorem Gx {α β γ : Rat} {a b c d : R2} (ha : 0 <= fL α β γ a) (hb : 0 <= fL α β γ b) (j : 0 < fL α β γ a \/ 0 < fL α β γ b) (hc : fL α β γ c <= 0) (hd : fL α β γ d <= 0) (D : fL α β γ c < 0 \/ fL α β γ d < 0)
  (n : ∀ p q, (p = a \/ p = b) -> (q = c \/ q = d) -> fL α β γ p = 0 -> fL α β γ q = 0 -> p ≠ q) : NM a b c d := by
 refine ⟨?_, xZ ha hb j hc (n a c (.inl rfl) (.inl rfl)) (n b c (.inr rfl) (.inl rfl)), xZ ha hb j hd (n a d (.inl rfl) (.inr rfl)) (n b d (.inr rfl) (.inr rfl)), ?_, ?_⟩
 · rintro ⟨h1, h2⟩
   have key : cr3 c d b * fL α β γ a - cr3 c d a * fL α β γ b = cr3 a b c * fL α β γ d - cr3 a b d * fL α β γ c := by unfold cr3 crQ fL; grind
   have one : cr3 c d b - cr3 c d a = cr3 a b c - cr3 a b d := by unfold cr3 crQ; grind
   generalize cr3 c d b = V at *
   generalize cr3 c d a = U at *
   generalize cr3 a b c = S at *
   generalize cr3 a b d = T at *
   generalize fL α β γ a = m at *
   generalize fL α β γ b = z at *
   generalize fL α β γ c = C at *
   generalize fL α β γ d = fd at *
   rcases zW h2 with ⟨u, v⟩ | ⟨u, v⟩ <;> rcases zW h1 with ⟨s, t⟩ | ⟨s, t⟩
   · grind
   · have E : 0 <= (-V) * m := Rat.mul_nonneg (by grind) ha
     have I : 0 <= U * z := Rat.mul_nonneg (by grind) hb
     have J : 0 <= (-S) * (-fd) := Rat.mul_nonneg (by grind) (by grind)
     have M : 0 <= T * (-C) := Rat.mul_nonneg (by grind) (by grind)
     rcases j with q | q
     · have := nN (a := -V) (b := m) (by grind) q; grind
     · have := nN (a := U) (b := z) (by grind) q; grind
   · have E : 0 <= V * m := Rat.mul_nonneg (by grind) ha
     have I : 0 <= (-U) * z := Rat.mul_nonneg (by grind) hb
     have J : 0 <= S * (-fd) := Rat.mul_nonneg (by grind) (by grind)
     have M : 0 <= (-T) * (-C) := Rat.mul_nonneg (by grind) (by grind)
     rcases j with q | q
     · have := nN (a := V) (b := m) (by grind) q; grind
     · have := nN (a := -U) (b := z) (by grind) q; grind
   · grind
 · refine xZ (α := -α) (β := -β) (γ := -γ) ?_ ?_ ?_ ?_ ?_ ?_ <;> rw [yi]
   · grind
   · grind
   · rw [yi]; grind
   · grind
   · intro h1 h2; exact fun e => n a c (.inl rfl) (.inl rfl) (by grind) (by grind) e.symm
   · intro h1 h2; exact fun e => n a d (.inl rfl) (.inr rfl) (by grind) (by grind) e.symm
 · refine xZ (α := -α) (β := -β) (γ := -γ) ?_ ?_ ?_ ?_ ?_ ?_ <;> rw [yi]
   · grind
   · grind
   · rw [yi]; grind
   · grind
   · intro h1 h2; exact fun e => n b c (.inr rfl) (.inl rfl) (by grind) (by grind) e.symm
   · intro h1 h2; exact fun e => n b d (.inr rfl) (.inr rfl) (by grind) (by grind) e.symm
end Go.L

