import Derived.Test.YtecdcgfclgmbpaaGreatSidL51L
import Derived.Test.YtecdcgfclgmbpaaGreatSidL51L
import Derived.Test.YtecdcgfclgmbpaaGreatSidLsrt
set_option linter.all false
namespace Go.L
open Go Go.Eng
section
variable {S : List (K2 × K2)}
theorem AT {z : K2} : ∀ {f : Nat} {D : K2 -> Bool} {e : K2}, 0 < (W S f D e).length -> (W S f D e).getD 0 z = e
 | 0, D, e, h => by simp [W] at h
 | f + 1, D, e, h => by
  unfold W at h ⊢
  by_cases hD : D e = true
  · rw [if_pos hD] at h; simp at h
  · rw [if_neg hD]; rfl
theorem Ca {z : K2} : ∀ (f : Nat) (D : K2 -> Bool) (e : K2) (k : Nat), k + 1 < (W S f D e).length -> (W S f D e).getD (k + 1) z = nxt S ((W S f D e).getD k z)
 | 0, D, e, k, h => by simp [W] at h
 | f + 1, D, e, k, h => by
  unfold W at h ⊢
  by_cases hD : D e = true
  · rw [if_pos hD] at h; simp at h
  · rw [if_neg hD] at h ⊢
    by_cases hh : dB S e = true
    · rw [if_pos hh] at h ⊢
      rw [List.length_cons] at h
      cases k with
      | zero => exact AT (by omega)
      | succ k => exact Ca f _ _ k (by omega)
    · rw [if_neg hh] at h; simp at h
theorem Bb : ∀ (f : Nat) (D : K2 -> Bool) (e : K2), (W S f D e).Nodup
 | 0, D, e => by simp [W]
 | f + 1, D, e => by
  unfold W
  by_cases hD : D e = true
  · rw [if_pos hD]; simp
  · rw [if_neg hD]
    by_cases hh : dB S e = true
    · rw [if_pos hh, List.nodup_cons]
      refine ⟨fun hm => ?_, Bb f _ _⟩
      have := Bf f _ _ _ hm
      simp at this
    · rw [if_neg hh]; simp
theorem uK {l : List K2} {x : K2} (h : x ∈ l) (z : K2) : ∃ k, k < l.length /\ l.getD k z = x := by
 obtain ⟨k, hk, e⟩ := List.getElem_of_mem h
 exact ⟨k, hk, by simp [List.getD, geT hk, e]⟩
theorem mB {l : List K2} {k : Nat} (h : k < l.length) (z : K2) : l.getD k z ∈ l := by
 simp only [List.getD, geT h, Option.getD_some]
 exact List.getElem_mem h
theorem getD_inj {l : List K2} (hn : l.Nodup) {j k : Nat} (hj : j < l.length) (hk : k < l.length) {z : K2} (e : l.getD j z = l.getD k z) : j = k := by
 simp only [List.getD, geT hj, geT hk, Option.getD_some] at e
 exact (List.getElem_inj hn).1 e
structure Cyc (S : List (K2 × K2)) (l : List K2) : Prop where
 pos : 0 < l.length
 nd : l.Nodup
 st : ∀ x ∈ l, dB S x = true
 go : ∀ k, k < l.length -> l.getD ((k + 1) % l.length) (A2.mk 0 0) = nxt S (l.getD k (A2.mk 0 0))
theorem Cy.fwd (h : Cy S) {x : K2} (hx : dB S x = true) : dB S (nxt S x) = true := h.fw _ (nT hx)
theorem yl (h : Cy S) : ∀ (f : Nat) (D : K2 -> Bool) (e : K2), dB S e = true -> ∀ x ∈ W S f D e, dB S x = true
 | 0, _, _, _, x, hx => by cases hx
 | f + 1, D, e, he, x, hx => by
  unfold W at hx
  by_cases hD : D e = true
  · rw [if_pos hD] at hx; cases hx
  · rw [if_neg hD, if_pos he] at hx
    rcases List.mem_cons.1 hx with rfl | hx
    · exact he
    · exact yl h f _ _ (h.fwd he) x hx
theorem FP (h : Cy S) {D : K2 -> Bool} (hD : Cl S D) {e : K2} (he : dB S e = true) (hd : D e = false) : Cyc S (W S 100 D e) /\ e ∈ W S 100 D e := by
 have hst := yl h 100 D e he
 have hnd := Bb (S := S) 100 D e
 have hmem := Bf (S := S) 100 D e
 have hsucc : ∀ x ∈ W S 100 D e, nxt S x ∈ W S 100 D e := fun x hx => by
  rcases zS 100 D e x _ (by have := Cu S D; have := h.len; omega) hx (hst x hx) rfl with h1 | h1
  · exact h1
  · have := hmem x hx
    rw [(hD x (hst x hx)).2 h1] at this; cases this
 have hnext := Ca (S := S) (z := A2.mk 0 0) 100 D e
 have hh0 := AT (S := S) (z := A2.mk 0 0) (f := 100) (D := D) (e := e)
 obtain ⟨t, ht⟩ := z8 (S := S) (f := 100) (by omega) hd
 generalize W S 100 D e = l at *
 have hpos : 0 < l.length := by rw [ht]; simp
 refine ⟨⟨hpos, hnd, hst, fun k hk => ?_⟩, by rw [ht]; simp⟩
 by_cases hk1 : k + 1 < l.length
 · rw [Nat.mod_eq_of_lt hk1]; exact hnext k hk1
 · have e1 : k + 1 = l.length := by omega
   rw [e1, Nat.mod_self]
   have hx := mB hk (A2.mk 0 0)
   obtain ⟨m, hm, em⟩ := uK (hsucc _ hx) (A2.mk 0 0)
   cases m with
   | zero => exact em
   | succ m =>
    rw [hnext m hm] at em
    have := wW h.pw (hst _ (mB (by omega) _)) (hst _ hx) em
    have := getD_inj hnd (by omega) hk this
    omega
theorem DA (h : Cy S) {D : K2 -> Bool} (hD : Cl S D) {l : List K2} (hl : Cyc S l) : Cl S (fun x => l.contains x || D x) := by
 intro x hx
 have fwd : x ∈ l -> nxt S x ∈ l := fun hm => by
  obtain ⟨k, hk, rfl⟩ := uK hm (A2.mk 0 0)
  rw [<- hl.go k hk]
  exact mB (Nat.mod_lt _ hl.pos) _
 have bwd : nxt S x ∈ l -> x ∈ l := fun hm => by
  obtain ⟨k, hk, e⟩ := uK hm (A2.mk 0 0)
  have key : ∃ j, j < l.length /\ (j + 1) % l.length = k := by
   cases k with
   | zero => exact ⟨l.length - 1, by omega, by rw [show l.length - 1 + 1 = l.length by omega, Nat.mod_self]⟩
   | succ k => exact ⟨k, by omega, Nat.mod_eq_of_lt hk⟩
  obtain ⟨j, hj, ej⟩ := key
  have := hl.go j hj
  rw [ej, e] at this
  rw [wW h.pw hx (hl.st _ (mB hj _)) this]
  exact mB hj _
 have := hD x hx
 simp only [Bool.or_eq_true, List.contains_iff_mem]
 constructor
 · rintro (a | a)
   · exact .inl (fwd a)
   · exact .inr (this.1 a)
 · rintro (a | a)
   · exact .inl (bwd a)
   · exact .inr (this.2 a)
theorem vv (h : Cy S) : ∀ (L : List K2) (D : K2 -> Bool), Cl S D -> (∀ e ∈ L, dB S e = true) ->
  (CLs S L D).flatten.Nodup /\ (∀ x ∈ (CLs S L D).flatten, D x = false) /\ (∀ e ∈ L, D e = true \/ e ∈ (CLs S L D).flatten) /\ ∀ l ∈ CLs S L D, Cyc S l
 | [], D, _, _ => by simp [CLs]
 | e :: L, D, hD, hL => by
  unfold CLs
  by_cases hd : D e = true
  · rw [if_pos hd]
    obtain ⟨a, b, c, d⟩ := vv h L D hD fun x hx => hL x (List.mem_cons_of_mem _ hx)
    refine ⟨a, b, fun x hx => ?_, d⟩
    rcases List.mem_cons.1 hx with rfl | hx
    · exact .inl hd
    · exact c x hx
  · have hd : D e = false := by simpa using hd
    rw [if_neg (by simp [hd])]
    obtain ⟨hc, hm⟩ := FP h hD (hL e (by simp)) hd
    have hmem := Bf (S := S) 100 D e
    obtain ⟨a, b, c, d⟩ := vv h L _ (DA h hD hc) fun x hx => hL x (List.mem_cons_of_mem _ hx)
    generalize W S 100 D e = l at *
    have b' : ∀ x ∈ (CLs S L fun x => l.contains x || D x).flatten, x ∉ l /\ D x = false := fun x hx => by
     have := b x hx
     simp only [Bool.or_eq_false_iff] at this
     exact ⟨by simpa using this.1, this.2⟩
    rw [List.flatten_cons]
    refine ⟨List.nodup_append.2 ⟨hc.nd, a, fun x hx y hy e => (b' y hy).1 (e ▸ hx)⟩, fun x hx => ?_, fun x hx => ?_, fun x hx => ?_⟩
    · rcases List.mem_append.1 hx with hx | hx
      · exact hmem x hx
      · exact (b' x hx).2
    · rcases List.mem_cons.1 hx with rfl | hx
      · exact .inr (List.mem_append.2 (.inl hm))
      · rcases c x hx with hx | hx
        · simp only [Bool.or_eq_true, List.contains_iff_mem] at hx
          rcases hx with hx | hx
          · exact .inr (List.mem_append.2 (.inl hx))
          · exact .inl hx
        · exact .inr (List.mem_append.2 (.inr hx))
    · rcases List.mem_cons.1 hx with rfl | hx
      · exact hc
      · exact d x hx
theorem Cy.Am (h : Cy S) : opK S = [] := by
 unfold opK
 refine List.filter_eq_nil_iff.2 fun e he => ?_
 obtain ⟨q, hq, rfl⟩ := iM.1 (xw.1 he)
 obtain ⟨q', hq', e'⟩ := h.bw q hq
 unfold opn
 have : getM false (bk S) q.1 = true := pU (by
  unfold bk
  rw [List.pairwise_map]; exact h.pw.imp fun h => h.2) (List.mem_map.2 ⟨q', hq', by rw [<- e']⟩)
 rw [this]; simp
def fM (l : List Int) : Int := l.foldr (· + ·) 0
theorem nG : ∀ (l m : List Int), fM (l ++ m) = fM l + fM m
 | [], m => by show fM m = 0 + fM m; omega
 | x :: l, m => by show x + fM (l ++ m) = (x + fM l) + fM m; rw [nG l m]; omega
theorem wB {l m : List Int} (h : l.Perm m) : fM l = fM m := by
 induction h with
 | nil => rfl
 | cons x _ ih => unfold fM at *; rw [List.foldr_cons, List.foldr_cons, ih]
 | swap x y l => show y + (x + _) = x + (y + _); omega
 | trans _ _ ih1 ih2 => exact ih1.trans ih2
theorem wg (F : K2 -> Int) : ∀ L : List (List K2), fM (L.map fun l => fM (l.map F)) = fM (L.flatten.map F)
 | [] => rfl
 | l :: L => by
  rw [List.map_cons, List.flatten_cons, List.map_append, nG, <- wg F L]; rfl
theorem yW {γ : Type} (lt : γ -> γ -> Bool) (x : γ) : ∀ l : List γ, (lJ lt x l).Perm (x :: l)
 | [] => List.Perm.refl _
 | y :: l => by
  unfold lJ
  split
  · exact ((yW lt x l).cons y).trans (List.Perm.swap x y l)
  · exact List.Perm.refl _
theorem we {γ : Type} (lt : γ -> γ -> Bool) : ∀ l : List γ, (iS lt l).Perm l
 | [] => List.Perm.refl _
 | x :: l => (yW lt x _).trans ((we lt l).cons x)
theorem Bk (h : Cy S) (F : K2 × K2 -> Int) : fM ((sq S).map fun x => fM (x.2.map fun e => F (e, nxt S e))) = fM (S.map F) /\ ∀ x ∈ sq S, x.1 = true /\ Cyc S x.2 /\ x.2.length <= 60 := by
 have hD : dnK S = fun _ => false := by funext x; unfold dnK; rw [h.Am]; rfl
 have hU : vC S (opK S) = (CLs S (stK S) fun _ => false).map fun l => (true, l) := by unfold vC; rw [h.Am, hD]; rfl
 obtain ⟨a, -, c, d⟩ := vv h (stK S) (fun _ => false) (fun x _ => Iff.rfl) fun e he => xw.1 he
 have hp : (sq S).Perm ((CLs S (stK S) fun _ => false).map fun l => (true, l)) := by unfold sq; rw [hU]; exact we _ _
 have hfl : (CLs S (stK S) fun _ => false).flatten.Perm (S.map (·.1)) := by
  have nd : (S.map (·.1)).Nodup := by unfold List.Nodup; rw [List.pairwise_map]; exact h.pw.imp fun h => h.1
  refine (List.perm_ext_iff_of_nodup a nd).2 fun x => ⟨fun hx => ?_, fun hx => ?_⟩
  · obtain ⟨l, hl, hx⟩ := List.mem_flatten.1 hx
    obtain ⟨q, hq, e⟩ := iM.1 ((d l hl).st x hx)
    exact List.mem_map.2 ⟨q, hq, e⟩
  · have : x ∈ stK S := by unfold stK; rw [jS]; exact hx
    rcases c x this with h | h
    · cases h
    · exact h
 constructor
 · rw [wB (hp.map _), List.map_map]
   show fM ((CLs S (stK S) fun _ => false).map fun l => fM (l.map fun e => F (e, nxt S e))) = _
   rw [wg (fun e => F (e, nxt S e)), wB (hfl.map _), List.map_map]
   congr 1
   refine List.map_congr_left fun q hq => ?_
   show F (q.1, nxt S q.1) = F q
   rw [show nxt S q.1 = q.2 from pU (h.pw.imp fun h => h.1) hq]
 · intro x hx
   obtain ⟨l, hl, rfl⟩ := List.mem_map.1 (hp.mem_iff.1 hx)
   refine ⟨rfl, d l hl, ?_⟩
   have h1 : l.Sublist (CLs S (stK S) fun _ => false).flatten := List.sublist_flatten_of_mem hl
   have h2 := h1.length_le
   rw [hfl.length_eq, List.length_map] at h2
   have := h.len
   show l.length <= 60
   omega
end
end Go.L


set_option linter.all false
namespace Go.L
open Go Go.Eng
def ctr (ax ay bx by' : Rat) : Int := if ay <= 0 /\ 0 < by' /\ 0 < crQ ax ay bx by' then 1 else if 0 < ay /\ by' <= 0 /\ crQ ax ay bx by' < 0 then -1 else 0
theorem Dl {ax ay bx by' : Rat} {m : Int} (hm : -1000 <= m /\ m <= 1000) : stQ ax ay bx by' m = m + ctr ax ay bx by' := by
 unfold stQ ctr
 split
 · exact wrap64_in (by omega) (by omega)
 · split
   · rw [wrap64_in (by omega) (by omega)]; omega
   · omega
theorem Dc {ax ay bx by' : Rat} : -1 <= ctr ax ay bx by' /\ ctr ax ay bx by' <= 1 := by
 unfold ctr
 split
 · omega
 · split <;> omega
theorem mK {a b : Rat} (h : 0 < a) (k : 0 < b) : 0 < a * b := Rat.mul_pos h k
theorem tB {a b : Rat} (h : a < 0) (k : b < 0) : 0 < a * b := by
 have := Rat.mul_pos (a := -a) (b := -b) (by grind) (by grind)
 grind
theorem Dz (a : Rat) : a < 0 \/ a = 0 \/ 0 < a := by
 by_cases h : a < 0
 · exact .inl h
 · by_cases k : 0 < a
   · exact .inr (.inr k)
   · exact .inr (.inl (by grind))
theorem xv {a b : Rat} (h : a ≠ 0) (k : b ≠ 0) : a * b ≠ 0 := by
 rcases Dz a with h1 | h1 | h1
 · rcases Dz b with k1 | k1 | k1
   · have := tB h1 k1; grind
   · exact absurd k1 k
   · have := Rat.mul_pos (a := -a) (b := b) (by grind) k1; grind
 · exact absurd h1 h
 · rcases Dz b with k1 | k1 | k1
   · have := Rat.mul_pos (a := a) (b := -b) h1 (by grind); grind
   · exact absurd k1 k
   · have := mK h1 k1; grind
def Bt (v : Int) (y : Rat) : Prop := (v : Rat) < y /\ y < ((v + 1 : Int) : Rat)
theorem icl {a b : Int} (h : a <= b) : (a : Rat) <= (b : Rat) := Rat.intCast_le_intCast.2 h
theorem ics (v : Int) : ((v + 1 : Int) : Rat) = (v : Rat) + 1 := by rw [Rat.intCast_add]; rfl
theorem Bt.pos {v : Int} {y : Rat} (h : Bt v y) (k : 0 <= v) : 0 < y := by
 have := icl k; have := h.1
 rw [Rat.intCast_zero] at *
 grind
theorem Bt.neg {v : Int} {y : Rat} (h : Bt v y) (k : v <= -1) : y < 0 := by
 have h1 := icl (show v + 1 <= 0 by omega); have := h.2
 rw [Rat.intCast_zero] at h1
 grind
theorem Bt.ne {v : Int} {y : Rat} (h : Bt v y) : y ≠ 0 := by
 by_cases k : 0 <= v
 · have := h.pos k; grind
 · have := h.neg (by omega); grind
theorem oN {v : Int} (h : 1 <= v) : 0 < (v : Rat) := by
 have := icl h
 rw [Rat.intCast_one] at this
 grind
theorem qB {v : Int} (h : v <= -1) : (v : Rat) < 0 := by
 have := icl h
 rw [Rat.intCast_neg, Rat.intCast_one] at this
 grind
theorem Fj {ax ay bx by' : Rat} : onQ ax ay bx by' = true ↔ crQ ax ay bx by' = 0 /\ ax * bx <= 0 /\ ay * by' <= 0 := by
 unfold onQ
 rw [decide_eq_true_iff]
 constructor
 · rintro ⟨a, b⟩
   exact ⟨a, (AK (by unfold crQ at a; exact a)).1 b⟩
 · rintro ⟨a, b⟩
   exact ⟨a, (AK (by unfold crQ at a; exact a)).2 b⟩
theorem lM {ax ay bx by' : Rat} (h : crQ ax ay bx by' = 0 -> ay * by' <= 0 -> False) : onQ ax ay bx by' = false := by
 cases e : onQ ax ay bx by' with
 | false => rfl
 | true => obtain ⟨a, _, b⟩ := Fj.1 e; exact (h a b).elim
theorem Aw {v : Int} {ax ay bx by' : Rat} (h1 : Bt v ay) (h2 : Bt v by') : onQ ax ay bx by' = false /\ ctr ax ay bx by' = 0 := by
 by_cases k : 0 <= v
 · have a := h1.pos k; have b := h2.pos k
   refine ⟨lM fun _ hh => ?_, ?_⟩
   · have := mK a b; grind
   · unfold ctr; rw [if_neg fun q => by grind, if_neg fun q => by grind]
 · have a := h1.neg (by omega); have b := h2.neg (by omega)
   refine ⟨lM fun _ hh => ?_, ?_⟩
   · have := tB a b; grind
   · unfold ctr; rw [if_neg fun q => by grind, if_neg fun q => by grind]
theorem DG {u v : Int} {ax ay bx by' : Rat} (h0 : ay = (v : Rat)) (hu : Bt u ax) (h2 : Bt v by') : onQ ax ay bx by' = false /\ ctr ax ay bx by' = if v = 0 /\ 0 <= u then 1 else 0 := by
 by_cases k : v = 0
 · subst k
   have a : ay = 0 := by rw [h0, Rat.intCast_zero]
   have b := h2.pos (by omega)
   have c : crQ ax ay bx by' = ax * by' := by unfold crQ; rw [a]; grind
   refine ⟨lM fun hh _ => ?_, ?_⟩
   · rw [c] at hh; exact xv hu.ne h2.ne hh
   · unfold ctr
     rw [c]
     by_cases ku : 0 <= u
     · rw [if_pos ⟨by grind, b, mK (hu.pos ku) b⟩, if_pos ⟨rfl, ku⟩]
     · have := Rat.mul_pos (a := -ax) (b := by') (by have := hu.neg (by omega); grind) b
       rw [if_neg fun q => by grind, if_neg fun q => by grind, if_neg fun q => ku q.2]
 · rw [if_neg fun q => k q.1]
   by_cases kv : 1 <= v
   · have a := oN kv; have b := h2.pos (by omega)
     refine ⟨lM fun _ hh => ?_, ?_⟩
     · have := mK a b; rw [h0] at hh; grind
     · unfold ctr; rw [h0, if_neg fun q => by grind, if_neg fun q => by grind]
   · have a := qB (v := v) (by omega); have b := h2.neg (by omega)
     refine ⟨lM fun _ hh => ?_, ?_⟩
     · have := tB a b; rw [h0] at hh; grind
     · unfold ctr; rw [h0, if_neg fun q => by grind, if_neg fun q => by grind]
theorem Dq {u v : Int} {ax ay bx by' : Rat} (h0 : by' = (v : Rat)) (hu : Bt u bx) (h2 : Bt v ay) : onQ ax ay bx by' = false /\ ctr ax ay bx by' = if v = 0 /\ 0 <= u then -1 else 0 := by
 by_cases k : v = 0
 · subst k
   have a : by' = 0 := by rw [h0, Rat.intCast_zero]
   have b := h2.pos (by omega)
   have c : crQ ax ay bx by' = -(bx * ay) := by unfold crQ; rw [a]; grind
   have n := xv hu.ne h2.ne
   refine ⟨lM fun hh _ => ?_, ?_⟩
   · rw [c] at hh; grind
   · unfold ctr
     rw [c]
     by_cases ku : 0 <= u
     · have := mK (hu.pos ku) b
       rw [if_neg fun q => by grind, if_pos ⟨b, by grind, by grind⟩, if_pos ⟨rfl, ku⟩]
     · have := Rat.mul_pos (a := -bx) (b := ay) (by have := hu.neg (by omega); grind) b
       rw [if_neg fun q => by grind, if_neg fun q => by grind, if_neg fun q => ku q.2]
 · rw [if_neg fun q => k q.1]
   by_cases kv : 1 <= v
   · have a := oN kv; have b := h2.pos (by omega)
     refine ⟨lM fun _ hh => ?_, ?_⟩
     · have := mK b a; rw [h0] at hh; grind
     · unfold ctr; rw [h0, if_neg fun q => by grind, if_neg fun q => by grind]
   · have a := qB (v := v) (by omega); have b := h2.neg (by omega)
     refine ⟨lM fun _ hh => ?_, ?_⟩
     · have := tB b a; rw [h0] at hh; grind
     · unfold ctr; rw [h0, if_neg fun q => by grind, if_neg fun q => by grind]
theorem D8 {u v : Int} {ax ay bx by' : Rat} (h0 : ay = ((v + 1 : Int) : Rat)) (hu : Bt u ax) (h2 : Bt v by') : onQ ax ay bx by' = false /\ ctr ax ay bx by' = 0 := by
 by_cases k : 0 <= v
 · have a := oN (v := v + 1) (by omega); have b := h2.pos k
   refine ⟨lM fun _ hh => ?_, ?_⟩
   · have := mK a b; rw [h0] at hh; grind
   · unfold ctr; rw [h0, if_neg fun q => by grind, if_neg fun q => by grind]
 · have b := h2.neg (by omega)
   have a : ay <= 0 := by have := icl (show v + 1 <= 0 by omega); rw [Rat.intCast_zero] at this; rw [h0]; exact this
   refine ⟨lM fun hc hh => ?_, ?_⟩
   · by_cases kv : v = -1
     · subst kv
       have a0 : ay = 0 := by rw [h0]; exact Rat.intCast_zero
       unfold crQ at hc
       rw [a0] at hc
       exact xv hu.ne h2.ne (by grind)
     · have a := qB (v := v + 1) (by omega)
       have := tB a b; rw [h0] at hh; grind
   · unfold ctr; rw [if_neg fun q => by grind, if_neg fun q => by grind]
theorem D7 {u v : Int} {ax ay bx by' : Rat} (h0 : by' = ((v + 1 : Int) : Rat)) (hu : Bt u bx) (h2 : Bt v ay) : onQ ax ay bx by' = false /\ ctr ax ay bx by' = 0 := by
 by_cases k : 0 <= v
 · have a := oN (v := v + 1) (by omega); have b := h2.pos k
   refine ⟨lM fun _ hh => ?_, ?_⟩
   · have := mK b a; rw [h0] at hh; grind
   · unfold ctr; rw [h0, if_neg fun q => by grind, if_neg fun q => by grind]
 · have b := h2.neg (by omega)
   have a : by' <= 0 := by have := icl (show v + 1 <= 0 by omega); rw [Rat.intCast_zero] at this; rw [h0]; exact this
   refine ⟨lM fun hc hh => ?_, ?_⟩
   · by_cases kv : v = -1
     · subst kv
       have a0 : by' = 0 := by rw [h0]; exact Rat.intCast_zero
       unfold crQ at hc
       rw [a0] at hc
       exact xv hu.ne h2.ne (by grind)
     · have a := qB (v := v + 1) (by omega)
       have := tB b a; rw [h0] at hh; grind
   · unfold ctr; rw [if_neg fun q => by grind, if_neg fun q => by grind]
theorem En {s ax ay bx by' : Rat} : crQ (s * ax) (s * ay) (s * bx) (s * by') = s * s * crQ ax ay bx by' := by unfold crQ; grind
theorem uA {s r : Rat} (hs : 0 < s) : 0 < s * r ↔ 0 < r := by
 constructor
 · intro h
   apply Classical.byContradiction
   intro k
   have : 0 <= s * (-r) := Rat.mul_nonneg (by grind) (by grind)
   grind
 · exact mK hs
theorem CC {s r : Rat} (hs : 0 < s) : s * r < 0 ↔ r < 0 := by
 have := uA (s := s) (r := -r) hs
 grind
theorem Es {s r : Rat} (hs : 0 < s) : s * r <= 0 ↔ r <= 0 := by
 have := uA (s := s) (r := r) hs
 grind
theorem DS {s r : Rat} (hs : 0 < s) : s * r = 0 ↔ r = 0 := by
 have h1 := uA (s := s) (r := r) hs; have h2 := CC (s := s) (r := r) hs
 constructor
 · intro h; rcases Dz r with h | h | h <;> grind
 · intro h; rw [h, Rat.mul_zero]
theorem E6 {s ax ay bx by' : Rat} (hs : 0 < s) : ctr (s * ax) (s * ay) (s * bx) (s * by') = ctr ax ay bx by' := by
 have h2 := mK hs hs
 unfold ctr
 rw [En]
 simp only [Es hs, uA hs, uA h2, CC h2]
theorem F2 {s ax ay bx by' : Rat} (hs : 0 < s) : onQ (s * ax) (s * ay) (s * bx) (s * by') = onQ ax ay bx by' := by
 have h2 := mK hs hs
 have h3 : s * ax * (s * bx) + s * ay * (s * by') = s * s * (ax * bx + ay * by') := by grind
 unfold onQ
 rw [En, h3]
 simp only [DS h2, Es h2]
end Go.L

