import Derived.Test.YtecdcgfclgmbpaaGreatLinL51d
import Derived.Test.YtecdcgfclgmbpaaGreatLinLsrt
set_option linter.all false
namespace Go.L
open Go Go.Eng
def dn (D : List (K2 × Bool)) (x : K2) : Bool := getM false D x
theorem vo (D : List (K2 × Bool)) (e : K2) : dn (cV D e true) = fun x => x == e || dn D x := by
 funext x
 unfold dn
 rw [yZ]
 by_cases h : x = e
 · subst h; simp
 · rw [if_neg h, show (x == e) = false by simpa using h]; rfl
def W (S : List (K2 × K2)) : Nat -> (K2 -> Bool) -> K2 -> List K2
 | 0, _, _ => []
 | f + 1, D, e => if D e = true then [] else e :: (if dG S e = true then W S f (fun x => x == e || D x) (getM (A2.mk 0 0) S e) else [])
def jt (D : List (K2 × Bool)) (l : List K2) : List (K2 × Bool) := l.foldl (fun d x => cV d x true) D
theorem oH : ∀ (l : List K2) (D : List (K2 × Bool)) (x : K2), dn (jt D l) x = true ↔ x ∈ l \/ dn D x = true
 | [], D, x => by simp [jt]
 | e :: l, D, x => by
  show dn (jt (cV D e true) l) x = true ↔ _
  rw [oH l, vo]
  simp only [Bool.or_eq_true, beq_iff_eq, List.mem_cons]
  constructor
  · rintro (h | h | h)
    · exact .inl (.inr h)
    · exact .inl (.inl h)
    · exact .inr h
  · rintro ((h | h) | h)
    · exact .inr (.inl h)
    · exact .inl h
    · exact .inr (.inr h)
def mu (S : List (K2 × K2)) (D : K2 -> Bool) : Nat := (S.filter fun q => !D q.1).length
theorem BQ (S : List (K2 × K2)) (D : K2 -> Bool) : mu S D <= S.length := List.length_filter_le _ _
theorem Ar {α : Type} {p p' : α -> Bool} (h : ∀ x, p' x = true -> p x = true) : ∀ l : List α, (l.filter p').length <= (l.filter p).length
 | [] => Nat.le_refl _
 | x :: l => by
  have := Ar h l
  rw [List.filter_cons, List.filter_cons]
  by_cases h1 : p' x = true
  · rw [if_pos h1, if_pos (h x h1), List.length_cons, List.length_cons]; omega
  · rw [if_neg h1]
    split
    · rw [List.length_cons]; omega
    · exact this
theorem AK {α : Type} {p p' : α -> Bool} (h : ∀ x, p' x = true -> p x = true) {y : α} (h1 : p y = true) (h2 : p' y = false) : ∀ l : List α, y ∈ l -> (l.filter p').length + 1 <= (l.filter p).length
 | [], hy => by cases hy
 | x :: l, hy => by
  rw [List.filter_cons, List.filter_cons]
  rcases List.mem_cons.1 hy with rfl | hy
  · rw [if_neg (by rw [h2]; simp), if_pos h1, List.length_cons]
    have := Ar h l; omega
  · have := AK h h1 h2 l hy
    by_cases h3 : p' x = true
    · rw [if_pos h3, if_pos (h x h3), List.length_cons, List.length_cons]; omega
    · rw [if_neg h3]
      split
      · rw [List.length_cons]; omega
      · exact this
theorem uS {S : List (K2 × K2)} {D : K2 -> Bool} {e : K2} (h : dG S e = true) (hd : D e = false) : mu S (fun x => x == e || D x) + 1 <= mu S D := by
 obtain ⟨q, hq, rfl⟩ := lU.1 h
 refine AK (p := fun x => !D x.1) (p' := fun x => !(x.1 == q.1 || D x.1)) (fun x hx => ?_) (y := q) (by simp [hd]) (by simp) S hq
 revert hx
 cases D x.1 <;> simp
section
variable {S : List (K2 × K2)}
theorem CA : ∀ (f : Nat) (V : K2 -> Bool) (e x y : K2), mu S V + 1 <= f -> x ∈ W S f V e -> dG S x = true -> y = getM (A2.mk 0 0) S x -> y ∈ W S f V e \/ V y = true
 | 0, V, e, x, y, hf, hx, _, _ => by cases hx
 | f + 1, V, e, x, y, hf, hx, hh, hy => by
  unfold W at hx ⊢
  cases hV : V e with
  | true => rw [if_pos hV] at hx; cases hx
  | false =>
   rw [if_neg (by simp [hV])] at hx ⊢
   have step : dG S e = true -> (x ∈ W S f (fun z => z == e || V z) (getM (A2.mk 0 0) S e)) -> y ∈ W S f (fun z => z == e || V z) (getM (A2.mk 0 0) S e) \/ (y = e \/ V y = true) := fun he hx => by
    have := uS (S := S) (D := V) he hV
    rcases CA f _ _ x y (by omega) hx hh hy with h | h
    · exact .inl h
    · simp only [Bool.or_eq_true, beq_iff_eq] at h; exact .inr h
   have fin : dG S e = true -> y ∈ W S f (fun z => z == e || V z) (getM (A2.mk 0 0) S e) \/ (y = e \/ V y = true) -> y ∈ (e :: (if dG S e = true then W S f (fun x => x == e || V x) (getM (A2.mk 0 0) S e) else [])) \/ V y = true := fun he h => by
    rw [if_pos he]
    rcases h with h | h | h
    · exact .inl (List.mem_cons_of_mem _ h)
    · exact .inl (by rw [h]; exact List.mem_cons_self ..)
    · exact .inr h
   rcases List.mem_cons.1 hx with rfl | hx
   · refine fin hh ?_
     have hm := uS (S := S) (D := V) hh hV
     obtain ⟨f', rfl⟩ : ∃ f', f = f' + 1 := ⟨f - 1, by omega⟩
     by_cases hd : (y == x || V y) = true
     · simp only [Bool.or_eq_true, beq_iff_eq] at hd; exact .inr hd
     · refine .inl ?_
       unfold W
       rw [<- hy, if_neg hd]
       exact List.mem_cons_self ..
   · by_cases he : dG S e = true
     · rw [if_pos he] at hx; exact fin he (step he hx)
     · rw [if_neg he] at hx; cases hx
theorem zQ : ∀ (f : Nat) (V : K2 -> Bool) (e y : K2), y ∈ W S f V e -> y = e \/ ∃ x ∈ W S f V e, dG S x = true /\ y = getM (A2.mk 0 0) S x
 | 0, V, e, y, h => by cases h
 | f + 1, V, e, y, h => by
  unfold W at h ⊢
  by_cases hV : V e = true
  · rw [if_pos hV] at h; cases h
  · rw [if_neg hV] at h ⊢
    rcases List.mem_cons.1 h with rfl | h
    · exact .inl rfl
    · by_cases he : dG S e = true
      · rw [if_pos he] at h ⊢
        rcases zQ f _ _ y h with h | ⟨x, hx, h1, h2⟩
        · exact .inr ⟨e, List.mem_cons_self .., he, h⟩
        · exact .inr ⟨x, List.mem_cons_of_mem _ hx, h1, h2⟩
      · rw [if_neg he] at h; cases h
def Cl (S : List (K2 × K2)) (D : K2 -> Bool) : Prop := ∀ x, dG S x = true -> (D x = true ↔ D (getM (A2.mk 0 0) S x) = true)
theorem AW {D : K2 -> Bool} (hD : Cl S D) : ∀ (f : Nat) (V : K2 -> Bool) (x : K2), D x = false -> W S f (fun z => V z || D z) x = W S f V x
 | 0, _, _, _ => rfl
 | f + 1, V, x, hx => by
  unfold W
  simp only [hx, Bool.or_false]
  by_cases hV : V x = true
  · rw [if_pos hV, if_pos hV]
  · rw [if_neg hV, if_neg hV]
    by_cases hh : dG S x = true
    · rw [if_pos hh, if_pos hh]
      have ht : D (getM (A2.mk 0 0) S x) = false := by
       cases hc : D (getM (A2.mk 0 0) S x) with
       | false => rfl
       | true => rw [(hD x hh).2 hc] at hx; cases hx
      have := AW hD f (fun z => z == x || V z) _ ht
      rw [<- this]
      congr 2
      funext z
      rw [Bool.or_assoc]
    · rw [if_neg hh, if_neg hh]
def path (S : List (K2 × K2)) (e : K2) : List K2 := W S 100 (fun _ => false) e
theorem DX {D : K2 -> Bool} (hD : Cl S D) {e : K2} (he : D e = false) : W S 100 D e = path S e := by
 have := AW hD 100 (fun _ => false) e he
 unfold path
 rw [<- this]
 rfl
theorem Cu {f : Nat} {D : K2 -> Bool} {e : K2} (hf : 0 < f) (he : D e = false) : ∃ l, W S f D e = e :: l := by
 obtain ⟨k, rfl⟩ : ∃ k, f = k + 1 := ⟨f - 1, by omega⟩
 unfold W
 rw [if_neg (by simp [he])]
 exact ⟨_, rfl⟩
theorem BE : ∀ (f : Nat) (D : K2 -> Bool) (e : K2), (W S f D e).length <= f
 | 0, _, _ => by simp [W]
 | f + 1, D, e => by
  unfold W
  split
  · simp
  · split
    · have := BE f (fun x => x == e || D x) (getM (A2.mk 0 0) S e)
      simp; omega
    · simp
end
structure Ge (S : List (K2 × K2)) (P : K2 -> Prop) : Prop where
 k : ∀ q ∈ S, P q.1 /\ P q.2
theorem Ge.next {S : List (K2 × K2)} {P : K2 -> Prop} (h : Ge S P) {e : K2} (he : dG S e = true) : P (getM (A2.mk 0 0) S e) := (h.k _ (pZ he)).2
theorem zT {S : List (K2 × K2)} {P : K2 -> Prop} (h : Ge S P) : ∀ (f : Nat) (D : K2 -> Bool) (e : K2), P e -> ∀ x ∈ W S f D e, P x
 | 0, _, _, _, x, hx => by cases hx
 | f + 1, D, e, he, x, hx => by
  unfold W at hx
  split at hx
  · cases hx
  · rcases List.mem_cons.1 hx with rfl | hx
    · exact he
    · split at hx
      · rename_i hh; exact zT h f _ _ (h.next hh) x hx
      · cases hx
noncomputable def crP (g : al) (level : Int) (e : K2) : ai := (cC 20000 g level e).getD default
noncomputable def crR (g : al) (level : Int) (e : K2) : ai := (bx 20000 g level e).getD default
theorem yF {g : al} {level : Int} {S : List (K2 × K2)} {P : K2 -> Prop} (hS : Ge S P) (hP : ∀ e, P e -> cC 20000 g level e = some (crP g level e)) (hl : S.length <= 60) {e : K2} (he : P e) {closed : Bool} {D : List (K2 × Bool)} (hd : dn D e = false) {out : List ae} (ho : out.length <= 10000) :
  dC 20000 e closed D g.X0 g.Y0 g.Step g.Width g.Height g.Z level S out = some (jt D (W S 100 (dn D) e), out ++ [ae.mk closed ((W S 100 (dn D) e).map (crP g level))]) := by
 apply Ok.eq
 unfold dC
 refine Ok.bd (R := fun o => o = (jt D (W S 100 (dn D) e), [] ++ (W S 100 (dn D) e).map (crP g level))) ?_ (by
  rintro o rfl
  exact Ok.gd (decide_eq_true (by omega)) (Ok.gd (decide_eq_true (by omega)) (aw.2 (by rw [List.nil_append]))))
 have key : ∀ (f m : Nat) (D : List (K2 × Bool)) (c : List ai) (e : K2), f < m -> mu S (dn D) + 1 <= f -> P e -> dn D e = false -> c.length + f <= 10000 ->
   Ok (aN m (fun again39 (p_27, c_28, at_29, at_30) => (
  bdO (cC 20000 (al.mk g.X0 g.Y0 g.Step g.Width g.Height g.Z) level (A2.mk at_29 at_30)) fun v40 => (
  gdO (decide ((c_28.length + 1) * 80 <= 140737488355328)) (
  gdO (decide (c_28.length + 1 <= 4611686018427387904)) (
  cdO (!(dG S (A2.mk at_29 at_30))) (
   some ((cV p_27 (A2.mk at_29 at_30) true, c_28 ++ [v40]))
  ) (
   cdO (getM false (cV p_27 (A2.mk at_29 at_30) true) (getM (A2.mk 0 0 : A2 Int) S (A2.mk at_29 at_30))) (
    some ((cV p_27 (A2.mk at_29 at_30) true, c_28 ++ [v40]))
   ) (
    again39 (cV p_27 (A2.mk at_29 at_30) true, c_28 ++ [v40], (getM (A2.mk 0 0 : A2 Int) S (A2.mk at_29 at_30)).e0, (getM (A2.mk 0 0 : A2 Int) S (A2.mk at_29 at_30)).e1)
   ))))))) (D, c, e.e0, e.e1)) fun o => o = (jt D (W S f (dn D) e), c ++ (W S f (dn D) e).map (crP g level)) := by
  intro f
  induction f with
  | zero => intro m D c e _ h; omega
  | succ f ih =>
   intro m D c e hm hf he hd hc
   obtain ⟨m, rfl⟩ : ∃ k, m = k + 1 := ⟨m - 1, by omega⟩
   rw [kj]
   dsimp only
   have hW : W S (f + 1) (dn D) e = e :: (if dG S e = true then W S f (dn (cV D e true)) (getM (A2.mk 0 0) S e) else []) := by
    rw [vo]
    conv => lhs; unfold W
    rw [if_neg (by simp [hd])]
   rw [hW]
   refine Ok.bde (hP e he) (Ok.gd (decide_eq_true (by omega)) (Ok.gd (decide_eq_true (by omega)) ?_))
   refine Ok.cd (fun h => aw.2 ?_) (fun h => ?_)
   · have h : dG S e = false := by simpa using h
     rw [if_neg (by rw [h]; simp)]; rfl
   · have h : dG S e = true := by simpa using h
     rw [if_pos h]
     have hmu := uS (S := S) h hd
     rw [<- vo] at hmu
     refine Ok.cd (fun h' => aw.2 ?_) (fun h' => ?_)
     · have h' : dn (cV D e true) (getM (A2.mk 0 0) S e) = true := h'
       rw [show W S f (dn (cV D e true)) (getM (A2.mk 0 0) S e) = [] by cases f <;> unfold W <;> simp [h']]; rfl
     · have h' : dn (cV D e true) (getM (A2.mk 0 0) S e) = false := h'
       refine (ih m (cV D e true) (c ++ [crP g level e]) _ (by omega) (by omega) (hS.next h) h' (by rw [List.length_append, List.length_singleton]; omega)).mono fun o ho => ho.trans ?_
       rw [List.map_cons, List.append_assoc]; rfl
 have := BQ S (dn D)
 exact key 100 20000 D [] e (by omega) (by omega) he hd (by simp)
theorem zh {g : al} {level : Int} {S : List (K2 × K2)} {P : K2 -> Prop} (hS : Ge S P) (hP : ∀ e, P e -> bx 20000 g level e = some (crR g level e)) (hl : S.length <= 60) {e : K2} (he : P e) {closed : Bool} {D : List (K2 × Bool)} {out : List ae} (ho : out.length <= 10000) :
  cE 20000 e closed D S g.X0 g.Y0 g.Step g.Width g.Height g.Z level out = some (jt D (W S 100 (dn D) e), out ++ [ae.mk closed ((W S 100 (dn D) e).map (crR g level))]) := by
 apply Ok.eq
 unfold cE
 refine Ok.bd (R := fun o => o = (jt D (W S 100 (dn D) e), [] ++ (W S 100 (dn D) e).map (crR g level))) ?_ (by
  rintro o rfl
  exact Ok.gd (decide_eq_true (by omega)) (Ok.gd (decide_eq_true (by omega)) (aw.2 (by rw [List.nil_append]))))
 have key : ∀ (f m : Nat) (D : List (K2 × Bool)) (c : List ai) (e : K2), f + 1 < m -> mu S (dn D) + 1 <= f -> P e -> c.length + f <= 10000 ->
   Ok (aN m (fun again41 (p_28, e_29, e_30, c_31, ok_32) => (
  cdO ok_32 (
   cdO (!(getM false p_28 (A2.mk e_29 e_30))) (
    bdO (bx 20000 (al.mk g.X0 g.Y0 g.Step g.Width g.Height g.Z) level (A2.mk e_29 e_30)) fun v44 => (
    gdO (decide ((c_31.length + 1) * 80 <= 140737488355328)) (
    gdO (decide (c_31.length + 1 <= 4611686018427387904)) (
    again41 (cV p_28 (A2.mk e_29 e_30) true, (getM (A2.mk 0 0 : A2 Int) S (A2.mk e_29 e_30)).e0, (getM (A2.mk 0 0 : A2 Int) S (A2.mk e_29 e_30)).e1, c_31 ++ [v44], dG S (A2.mk e_29 e_30))
    )))
   ) (
    some ((p_28, c_31))
   )
  ) (
   some ((p_28, c_31))
  ))) (D, e.e0, e.e1, c, true)) fun o => o = (jt D (W S f (dn D) e), c ++ (W S f (dn D) e).map (crR g level)) := by
  intro f
  induction f with
  | zero => intro m D c e _ h; omega
  | succ f ih =>
   intro m D c e hm hf he hc
   obtain ⟨m, rfl⟩ : ∃ k, m = k + 1 := ⟨m - 1, by omega⟩
   rw [kj]
   dsimp only
   refine Ok.cd (fun _ => Ok.cd (fun hd => ?_) (fun hd => aw.2 ?_)) (fun h => by cases h)
   · have hd : dn D e = false := by
      have : (!dn D e) = true := hd
      simpa using this
     have hW : W S (f + 1) (dn D) e = e :: (if dG S e = true then W S f (dn (cV D e true)) (getM (A2.mk 0 0) S e) else []) := by
      rw [vo]
      conv => lhs; unfold W
      rw [if_neg (by simp [hd])]
     rw [hW]
     refine Ok.bde (hP e he) (Ok.gd (decide_eq_true (by omega)) (Ok.gd (decide_eq_true (by omega)) ?_))
     cases h : dG S e with
     | true =>
      have hmu := uS (S := S) h hd
      rw [<- vo] at hmu
      show Ok (aN m _ (cV D e true, (getM (A2.mk 0 0) S e).e0, (getM (A2.mk 0 0) S e).e1, c ++ [crR g level e], true)) _
      rw [if_pos rfl]
      refine (ih m (cV D e true) (c ++ [crR g level e]) _ (by omega) (by omega) (hS.next h) (by rw [List.length_append, List.length_singleton]; omega)).mono fun o ho => ho.trans ?_
      rw [List.map_cons, List.append_assoc]; rfl
     | false =>
      show Ok (aN m _ (cV D e true, (getM (A2.mk 0 0) S e).e0, (getM (A2.mk 0 0) S e).e1, c ++ [crR g level e], false)) _
      obtain ⟨m, rfl⟩ : ∃ k, m = k + 1 := ⟨m - 1, by omega⟩
      rw [if_neg (by simp), kj]
      exact Ok.cd (fun h => by cases h) (fun _ => aw.2 rfl)
   · have hd : dn D e = true := by
      have : (!dn D e) = false := hd
      simpa using this
     rw [show W S (f + 1) (dn D) e = [] by unfold W; rw [if_pos hd]]
     show (D, c) = (D, c ++ [])
     rw [List.append_nil]
 have := BQ S (dn D)
 exact key 100 20000 D [] e (by omega) (by omega) he (by simp)
end Go.L


set_option linter.all false
namespace Go.L
open Go Go.Eng
theorem zr {α : Type} {R : α -> α -> Prop} (hs : ∀ a b, R a b -> R b a) : ∀ {l : List α}, l.Pairwise R -> ∀ a ∈ l, ∀ b ∈ l, a ≠ b -> R a b
 | [], _, _, h, _, _, _ => by cases h
 | x :: l, hp, a, ha, b, hb, hn => by
  rw [List.pairwise_cons] at hp
  rcases List.mem_cons.1 ha with rfl | ha1 <;> rcases List.mem_cons.1 hb with rfl | hb1
  · exact absurd rfl hn
  · exact hp.1 b hb1
  · exact hs _ _ (hp.1 a ha1)
  · exact zr hs hp.2 a ha1 b hb1 hn
section
variable {S : List (K2 × K2)}
abbrev nxt (S : List (K2 × K2)) (x : K2) : K2 := getM (A2.mk 0 0) S x
theorem Dv (hS : S.Pairwise Rq) {x y : K2} (hx : dG S x = true) (hy : dG S y = true) (e : nxt S x = nxt S y) : x = y := by
 apply Classical.byContradiction
 intro hn
 have h1 := pZ (z := (A2.mk 0 0 : K2)) hx
 have h2 := pZ (z := (A2.mk 0 0 : K2)) hy
 have := zr (R := Rq) (fun a b h => ⟨fun e => h.1 e.symm, fun e => h.2 e.symm⟩) hS _ h1 _ h2 (fun e => hn (congrArg Prod.fst e))
 exact this.2 e
def isS (S : List (K2 × K2)) (e : K2) : Prop := ∀ x, dG S x = true -> nxt S x ≠ e
theorem zq {e e' : K2} (h : isS S e) (hm : e ∈ path S e') : e = e' := by
 rcases zQ 100 _ e' e hm with h1 | ⟨x, _, hx, h1⟩
 · exact h1
 · exact absurd h1.symm (h x hx)
structure Op (S : List (K2 × K2)) (cr : K2 -> ai) (L : List K2) (c : List (K2 × Bool) × List ae) : Prop where
 cl : Cl S (dn c.1)
 mem : ∀ x, dn c.1 x = true ↔ ∃ e ∈ L, x ∈ path S e
 out : c.2 = L.map fun e => ae.mk false ((path S e).map cr)
theorem BS {cr : K2 -> ai} : Op S cr [] ([], []) := ⟨fun x _ => Iff.rfl, fun x => by simp [dn, getM], rfl⟩
theorem Op.step (hS : S.Pairwise Rq) (hl : S.length <= 60) {cr : K2 -> ai} {L : List K2} {c : List (K2 × Bool) × List ae} (h : Op S cr L c) {e : K2} (he : isS S e) (hn : e ∉ L) :
  dn c.1 e = false /\ W S 100 (dn c.1) e = path S e /\ Op S cr (L ++ [e]) (jt c.1 (path S e), c.2 ++ [ae.mk false ((path S e).map cr)]) := by
 have hd : dn c.1 e = false := by
  cases hc : dn c.1 e with
  | false => rfl
  | true =>
   obtain ⟨e', he', hm⟩ := (h.mem e).1 hc
   rw [zq he hm] at hn
   exact absurd he' hn
 refine ⟨hd, DX h.cl hd, ⟨fun x hx => ?_, fun x => ?_, ?_⟩⟩
 · rw [oH, oH]
   constructor
   · rintro (hp | hp)
     · rcases CA 100 (fun _ => false) e x _ (by have := BQ S (fun _ => false); omega) hp hx rfl with h1 | h1
       · exact .inl h1
       · cases h1
     · exact .inr ((h.cl x hx).1 hp)
   · rintro (hp | hp)
     · rcases zQ 100 _ e _ hp with h1 | ⟨y, hy, hy2, h1⟩
       · exact absurd h1 (he x hx)
       · rw [Dv hS hx hy2 h1]; exact .inl hy
     · exact .inr ((h.cl x hx).2 hp)
 · rw [oH, h.mem]
   constructor
   · rintro (hp | ⟨e', he', hp⟩)
     · exact ⟨e, by simp, hp⟩
     · exact ⟨e', by simp [he'], hp⟩
   · rintro ⟨e', he', hp⟩
     rcases List.mem_append.1 he' with h1 | h1
     · exact .inr ⟨e', h1, hp⟩
     · rw [List.mem_singleton] at h1; subst h1; exact .inl hp
 · rw [List.map_append, h.out]; rfl
def CLs (S : List (K2 × K2)) : List K2 -> (K2 -> Bool) -> List (List K2)
 | [], _ => []
 | e :: L, D => if D e = true then CLs S L D else W S 100 D e :: CLs S L (fun x => (W S 100 D e).contains x || D x)
theorem wy (l : List K2) (D : List (K2 × Bool)) : dn (jt D l) = fun x => l.contains x || dn D x := by
 funext x
 have := oH l D x
 cases h : dn (jt D l) x with
 | true =>
  rcases this.1 h with h | h
  · simp [h]
  · simp [h]
 | false =>
  rw [h] at this
  have n1 : ¬ x ∈ l := fun k => by have := this.2 (.inl k); cases this
  have n2 : dn D x = false := by
   cases hc : dn D x with
   | false => rfl
   | true => have := this.2 (.inr hc); cases this
  rw [n2]; simp [n1]
theorem yh {e : K2} {L : List K2} {D : K2 -> Bool} (h : D e = true) : CLs S (e :: L) D = CLs S L D := by
 conv => lhs; unfold CLs
 rw [if_pos h]
theorem AH {e : K2} {L : List K2} {D : List (K2 × Bool)} (h : dn D e = false) : CLs S (e :: L) (dn D) = W S 100 (dn D) e :: CLs S L (dn (jt D (W S 100 (dn D) e))) := by
 conv => lhs; unfold CLs
 rw [if_neg (by simp [h]), wy]
theorem xr : ∀ (L : List K2) (D : K2 -> Bool), (CLs S L D).length <= L.length
 | [], _ => Nat.le_refl _
 | e :: L, D => by
  unfold CLs
  split
  · have := xr L D; rw [List.length_cons]; omega
  · have := xr L (fun x => (W S 100 D e).contains x || D x)
    rw [List.length_cons, List.length_cons]; omega
theorem qR : ∀ (L : List K2) (D : K2 -> Bool), (∀ l ∈ CLs S L D, ∃ e t, l = e :: t /\ e ∈ L /\ D e = false) /\ (CLs S L D).Pairwise (fun l m => l.head? ≠ m.head?)
 | [], _ => ⟨fun l h => (by cases h), .nil⟩
 | e :: L, D => by
  unfold CLs
  by_cases hd : D e = true
  · rw [if_pos hd]
    obtain ⟨h1, h2⟩ := qR L D
    exact ⟨fun l hl => by obtain ⟨a, t, e1, e2, e3⟩ := h1 l hl; exact ⟨a, t, e1, List.mem_cons_of_mem _ e2, e3⟩, h2⟩
  · have hd : D e = false := by simpa using hd
    rw [if_neg (by simp [hd])]
    obtain ⟨h1, h2⟩ := qR L (fun x => (W S 100 D e).contains x || D x)
    obtain ⟨t0, ht0⟩ := Cu (S := S) (f := 100) (by omega) hd
    refine ⟨fun l hl => ?_, List.pairwise_cons.2 ⟨fun l hl => ?_, h2⟩⟩
    · rcases List.mem_cons.1 hl with rfl | hl
      · exact ⟨e, t0, ht0, by simp, hd⟩
      · obtain ⟨a, t, e1, e2, e3⟩ := h1 l hl
        exact ⟨a, t, e1, List.mem_cons_of_mem _ e2, by rw [Bool.or_eq_false_iff] at e3; exact e3.2⟩
    · obtain ⟨a, t, e1, e2, e3⟩ := h1 l hl
      rw [ht0, e1]
      intro h
      have h : e = a := by simpa using h
      rw [Bool.or_eq_false_iff] at e3
      have := e3.1
      rw [ht0, h] at this
      simp at this
end
end Go.L


set_option linter.all false
namespace Go.L
open Go Go.Eng
theorem u6 {S : List (K2 × K2)} (hS : S.Pairwise Rq) {e : K2} (h : getM false (S.map fun q => (q.2, true)) e = false) : isS S e := by
 rintro x hx rfl
 have hm := pZ (z := (A2.mk 0 0 : K2)) hx
 have : getM false (S.map fun q => (q.2, true)) (nxt S x) = true := zj (by
  rw [List.pairwise_map]; exact hS.imp fun h => h.2) (List.mem_map.2 ⟨_, hm, rfl⟩)
 rw [this] at h; cases h
def bk (S : List (K2 × K2)) : List (K2 × Bool) := S.map fun q => (q.2, true)
def opn (S : List (K2 × K2)) (e : K2) : Bool := !getM false (bk S) e
def toC (cr : K2 -> ai) (b : Bool) (l : List K2) : ae := ae.mk b (l.map cr)
theorem vO {α : Type} [Inhabited α] {l : List α} {k : Nat} (h : k < l.length) : gt l (k : Int) = l[k] := by
 rw [mW]; simp [List.getD, geT h]
theorem oA {α : Type} {l : List α} {k : Nat} (h : k < l.length) : l.take (k + 1) = l.take k ++ [l[k]] := by
 rw [List.take_add_one, geT h]; rfl
theorem vB {l : List K2} {k : Nat} (h : k < l.length) (hn : l.Nodup) : l[k] ∉ l.take k := by
 have h1 : (l.take (k + 1)).Nodup := hn.sublist (List.take_sublist _ _)
 rw [oA h] at h1
 intro hm
 exact (List.nodup_append.1 h1).2.2 _ hm _ (by simp) rfl
theorem BR {g : al} {level : Int} {S : List (K2 × K2)} {P : K2 -> Prop} (hS : S.Pairwise Rq) (hG : Ge S P) (hP : ∀ e, P e -> cC 20000 g level e = some (crP g level e)) (hl : S.length <= 60)
  {K : List K2} (hK : K.Nodup) (hKl : K.length <= 60) (hKP : ∀ e ∈ K, P e) {F : List ae -> List ae}
  (hF : ∀ c, Op S (crP g level) (K.filter (opn S)) c -> aL 20000 (c.2 ++ (CLs S K (dn c.1)).map (toC (crP g level) true)) = some (F (c.2 ++ (CLs S K (dn c.1)).map (toC (crP g level) true))) /\
   (F (c.2 ++ (CLs S K (dn c.1)).map (toC (crP g level) true))).length = (c.2 ++ (CLs S K (dn c.1)).map (toC (crP g level) true)).length) :
  Ok (p8 20000 g level (S, bk S) (K.length : Int) K) fun r => ∃ c, Op S (crP g level) (K.filter (opn S)) c /\ r = F (c.2 ++ (CLs S K (dn c.1)).map (toC (crP g level) true)) := by
 unfold p8
 refine Ok.bd (R := fun c => Op S (crP g level) (K.filter (opn S)) c /\ c.2.length <= 60) ?_ ?_
 · refine fr (γ := List (K2 × Bool) × List ae) (len := K.length) (fun c x => (c.1, c.2, x)) (fun k c => Op S (crP g level) ((K.take k).filter (opn S)) c /\ c.2.length <= k) (by omega) (by omega) (c0 := ([], [])) ⟨BS, by simp⟩ ?_ ?_
   · rintro again k c hk ⟨hO, hc⟩ ih
     have e1 := vO hk
     have e2 : (K.take (k + 1)).filter (opn S) = (K.take k).filter (opn S) ++ (if opn S K[k] = true then [K[k]] else []) := by
      rw [oA hk, List.filter_append]
      by_cases h : opn S K[k] = true
      · rw [if_pos h]; simp [h]
      · rw [if_neg h]; simp [h]
     have hm : K[k] ∉ (K.take k).filter (opn S) := fun h => vB hk hK (List.mem_filter.1 h).1
     have hp := hKP _ (List.getElem_mem hk)
     rw [e2] at ih
     refine Ok.cd (fun _ => ?_) (fun h => by have := dcF h; omega)
     refine Ok.gd (by rw [bg]; exact decide_eq_true hk) ?_
     rw [e1]
     refine Ok.cd (fun h => ?_) (fun h => ?_)
     · have h : opn S K[k] = true := h
       rw [if_pos h] at ih
       have hst : isS S K[k] := u6 hS (by unfold opn bk at h; simpa using h)
       obtain ⟨hd, hW, hO2⟩ := hO.step hS hl hst hm
       refine Ok.bde (yF hG hP hl hp hd (by omega)) ?_
       rw [hW]
       exact ih (jt c.1 (path S K[k]), c.2 ++ [ae.mk false ((path S K[k]).map (crP g level))]) ⟨hO2, by dsimp only; rw [List.length_append, List.length_singleton]; omega⟩
     · have h : opn S K[k] = false := h
       rw [if_neg (by rw [h]; simp), List.append_nil] at ih
       exact ih c ⟨hO, by omega⟩
   · rintro again c ⟨hO, hc⟩
     rw [List.take_length] at hO
     exact Ok.cd (fun h => by have := dcT h; omega) (fun _ => aw.2 ⟨hO, show c.2.length <= 60 by omega⟩)
 · rintro c0 ⟨hO, hc0⟩
   refine Ok.bd (R := fun o => o = c0.2 ++ (CLs S K (dn c0.1)).map (toC (crP g level) true)) ?_ ?_
   · refine fr (γ := List (K2 × Bool) × List ae) (len := K.length) (fun c x => (c.1, c.2, x)) (fun k c => c.2 ++ (CLs S (K.drop k) (dn c.1)).map (toC (crP g level) true) = c0.2 ++ (CLs S K (dn c0.1)).map (toC (crP g level) true) /\ c.2.length <= 60 + k) (by omega) (by omega) (c0 := c0) ⟨rfl, by omega⟩ ?_ ?_
     · rintro again k c hk ⟨hE, hc⟩ ih
       have hp := hKP _ (List.getElem_mem hk)
       rw [List.drop_eq_getElem_cons hk] at hE
       refine Ok.cd (fun _ => ?_) (fun h => by have := dcF h; omega)
       refine Ok.gd (by rw [bg]; exact decide_eq_true hk) ?_
       rw [vO hk]
       refine Ok.cd (fun h => ?_) (fun h => ?_)
       · have h : dn c.1 K[k] = false := by
          have : (!dn c.1 K[k]) = true := h
          simpa using this
         refine Ok.bde (yF hG hP hl hp h (by omega)) ?_
         rw [AH h, List.map_cons] at hE
         refine ih (jt c.1 (W S 100 (dn c.1) K[k]), c.2 ++ [ae.mk true ((W S 100 (dn c.1) K[k]).map (crP g level))]) ⟨?_, by dsimp only; rw [List.length_append, List.length_singleton]; omega⟩
         rw [<- hE, List.append_assoc]; rfl
       · have h : dn c.1 K[k] = true := by
          have : (!dn c.1 K[k]) = false := h
          simpa using this
         rw [yh h] at hE
         exact ih c ⟨hE, by omega⟩
     · rintro again c ⟨hE, hc⟩
       rw [List.drop_length] at hE
       refine Ok.cd (fun h => by have := dcT h; omega) (fun _ => aw.2 ?_)
       rw [<- hE]
       show c.2 = c.2 ++ []
       rw [List.append_nil]
   · rintro o rfl
     obtain ⟨f1, f2⟩ := hF c0 hO
     refine Ok.bde f1 (Ok.gd (decide_eq_true f2) (aw.2 ⟨c0, hO, rfl⟩))
end Go.L

