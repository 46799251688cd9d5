import Derived.Test.YtecdcgfclgmbpaaGreatApaL51i
import Derived.Test.YtecdcgfclgmbpaaGreatApaLsrt
import Derived.Test.YtecdcgfclgmbpaaGreatApaLsrt
set_option linter.all false
namespace Go.L
open Go Go.Eng
theorem vo {α : Type} {κ : α -> Int} : ∀ {l m : List α}, l.Pairwise (fun a b => κ a < κ b) -> m.Pairwise (fun a b => κ a < κ b) -> (∀ x, x ∈ l ↔ x ∈ m) -> l = m
 | [], [], _, _, _ => rfl
 | [], y :: m, _, _, h => by have := (h y).2 (by simp); cases this
 | x :: l, [], _, _, h => by have := (h x).1 (by simp); cases this
 | x :: l, y :: m, q, hm, h => by
  rw [List.pairwise_cons] at q hm
  have e : x = y := by
   rcases List.mem_cons.1 ((h x).1 (by simp)) with e | e
   · exact e
   · rcases List.mem_cons.1 ((h y).2 (by simp)) with C | C
     · exact C.symm
     · have a := hm.1 x e; have b := q.1 y C; omega
  subst e
  congr 1
  refine vo q.2 hm.2 fun z => ⟨fun j => ?_, fun j => ?_⟩
  · rcases List.mem_cons.1 ((h z).1 (List.mem_cons_of_mem _ j)) with e | e
    · subst e; have := q.1 z j; omega
    · exact e
  · rcases List.mem_cons.1 ((h z).2 (List.mem_cons_of_mem _ j)) with e | e
    · subst e; have := hm.1 z j; omega
    · exact e
abbrev Ln := Bool × List K2
def toL (cr : K2 -> an) (x : Ln) : ak := toC cr x.1 x.2
def kL (x : Ln) : Int := kap (x.2.headD (A2.mk 0 0))
def stK (S : List (K2 × K2)) : List K2 := iT (ltK kap) (S.map (·.1))
def opK (S : List (K2 × K2)) : List K2 := (stK S).filter (opn S)
def dnK (S : List (K2 × K2)) (x : K2) : Bool := (opK S).any fun e => (path S e).contains x
def opL (S : List (K2 × K2)) (e : K2) : Ln := (false, path S e)
def uK (S : List (K2 × K2)) (A : List K2) : List Ln := A.map (opL S) ++ (CLs S (stK S) (dnK S)).map fun l => (true, l)
def pr (S : List (K2 × K2)) : List Ln := iT (ltK kL) (uK S (opK S))
theorem oE {S : List (K2 × K2)} {e : K2} : ∃ t, path S e = e :: t := AM (by omega) rfl
section
variable {g : al} {level : Int} {S : List (K2 × K2)}
structure SS (g : al) (level : Int) (S : List (K2 × K2)) : Prop where
 z40 : g.Z.length <= 40
 pw : S.Pairwise Rq
 ge : Ge S (Cr g.Z level)
 len : S.length <= 60
theorem DI {w h : Nat} (j : Gd g w h) (hb : g.Z.any p4 = false) (q : g.Z.length <= 40) (level : Int) : SS g level (mq g w h level) := by
 refine ⟨q, Bm j level, Bn j hb, ?_⟩
 have h1 : (mq g w h level).length <= (lD g w h).length := List.length_filterMap_le _ _
 have h2 := Hu j.w1.1 j.h1.1 (by rw [<- j.m]; exact q)
 have z : (lD g w h).length <= 2 * ((w - 1) * (h - 1)) := E4
 omega
theorem vg {e : K2} : e ∈ stK S ↔ cD S e = true := by
 unfold stK
 rw [jN, List.mem_map, iq]
theorem SS.cr (h : SS g level S) {e : K2} (he : e ∈ stK S) : Cr g.Z level e := by
 obtain ⟨q, j, rfl⟩ := iq.1 (vg.1 he)
 exact (h.ge.k q j).1
theorem SS.keys (h : SS g level S) : (stK S).Pairwise fun a b => kap a < kap b := by
 unfold stK
 refine wB ?_
 rw [List.pairwise_map]
 refine h.pw.imp_of_mem fun {a b} ha hb j m => j.1 ?_
 exact sK h.z40 (h.ge.k a ha).1 (h.ge.k b hb).1 m
theorem SS.nd (h : SS g level S) : (stK S).Nodup := h.keys.imp fun {a b} k => by rintro rfl; omega
theorem uU {x : K2} : dnK S x = true ↔ ∃ e ∈ opK S, x ∈ path S e := by
 unfold dnK
 rw [List.any_eq_true]
 simp only [List.contains_iff_mem]
theorem Op.FB {cr : K2 -> an} {A : List K2} {c : List (K2 × Bool) × List ak} (j : ∀ e, e ∈ A ↔ e ∈ opK S) (h : Op S cr A c) : dn c.1 = dnK S := by
 funext x
 have h1 := h.mem x
 have h2 := uU (S := S) (x := x)
 have m : dn c.1 x = true ↔ dnK S x = true := by
  rw [h1, h2]
  exact ⟨fun ⟨e, a, b⟩ => ⟨e, (j e).1 a, b⟩, fun ⟨e, a, b⟩ => ⟨e, (j e).2 a, b⟩⟩
 cases ha : dn c.1 x <;> cases hb : dnK S x <;> simp [ha, hb] at m ⊢
theorem Op.BK {cr : K2 -> an} {A : List K2} {c : List (K2 × Bool) × List ak} (j : ∀ e, e ∈ A ↔ e ∈ opK S) (h : Op S cr A c) : c.2 ++ (CLs S (stK S) (dn c.1)).map (toC cr true) = (uK S A).map (toL cr) := by
 unfold uK
 rw [h.FB j, h.out, List.map_append, List.map_map, List.map_map]; rfl
theorem SS.B8 (h : SS g level S) {A : List K2} (j : ∀ e, e ∈ A ↔ e ∈ opK S) : ∀ x ∈ uK S A, ∃ e t, x.2 = e :: t /\ Cr g.Z level e := by
 intro x hx
 unfold uK at hx
 rcases List.mem_append.1 hx with hx | hx
 · obtain ⟨e, he, rfl⟩ := List.mem_map.1 hx
   obtain ⟨t, m⟩ := oE (S := S) (e := e)
   exact ⟨e, t, m, h.cr (List.mem_filter.1 ((j e).1 he)).1⟩
 · obtain ⟨l, q, rfl⟩ := List.mem_map.1 hx
   obtain ⟨e, t, e1, e2, -⟩ := (qR (stK S) (dnK S)).1 l q
   exact ⟨e, t, e1, h.cr e2⟩
theorem q0 {b : Bool} {e : K2} {t : List K2} : kL (b, e :: t) = kap e := rfl
theorem SS.pwL (h : SS g level S) {A : List K2} (D : ∀ e, e ∈ A ↔ e ∈ opK S) (E : A.Nodup) : (uK S A).Pairwise fun a b => kL a ≠ kL b := by
 unfold uK
 have m : ∀ e ∈ A, Cr g.Z level e := fun e he => h.cr (List.mem_filter.1 ((D e).1 he)).1
 obtain ⟨C, I⟩ := qR (S := S) (stK S) (dnK S)
 rw [List.pairwise_append]
 refine ⟨?_, ?_, ?_⟩
 · rw [List.pairwise_map]
   refine List.Pairwise.imp_of_mem (fun {a b} ha hb q j => q ?_) E
   obtain ⟨t, z⟩ := oE (S := S) (e := a)
   obtain ⟨u, hu⟩ := oE (S := S) (e := b)
   unfold opL at j
   rw [z, hu, q0, q0] at j
   exact sK h.z40 (m a ha) (m b hb) j
 · rw [List.pairwise_map]
   refine List.Pairwise.imp_of_mem (fun {a b} ha hb q j => q ?_) I
   obtain ⟨e, t, e1, e2, -⟩ := C a ha
   obtain ⟨f, u, f1, f2, -⟩ := C b hb
   rw [e1, f1, q0, q0] at j
   rw [e1, f1, sK h.z40 (h.cr e2) (h.cr f2) j]; rfl
 · intro x hx y J j
   obtain ⟨e, he, rfl⟩ := List.mem_map.1 hx
   obtain ⟨l, M, rfl⟩ := List.mem_map.1 J
   obtain ⟨t, z⟩ := oE (S := S) (e := e)
   obtain ⟨f, u, f1, f2, f3⟩ := C l M
   unfold opL at j
   rw [z, f1, q0, q0] at j
   have N := sK h.z40 (m e he) (h.cr f2) j
   have : dnK S f = true := uU.2 ⟨e, (D e).1 he, by rw [z, N]; simp⟩
   rw [this] at f3; cases f3
theorem AI {cr : K2 -> an} {x : Ln} {e : K2} {t : List K2} (h : x.2 = e :: t) (hc : (cr e).A = e.e0 /\ (cr e).B = e.e1) : kC (toL cr x) = kL x := by
 unfold kC fK toL toC kL
 rw [h]
 show kap (A2.mk (cr e).A (cr e).B) = kap e
 rw [hc.1, hc.2]
theorem EN (j : g.Z.length <= 40) {cr : K2 -> an} {x : Ln} {e : K2} {t : List K2} (h : x.2 = e :: t) (hc : (cr e).A = e.e0 /\ (cr e).B = e.e1) (he : Cr g.Z level e) : okC (toL cr x) := by
 have := he.bd
 unfold okC fK toL toC
 rw [h]
 show 0 < (t.map cr).length + 1 /\ 0 <= (cr e).A /\ (cr e).A < 40 /\ 0 <= (cr e).B /\ (cr e).B < 40
 rw [hc.1, hc.2]
 omega
theorem zz {A : List K2} (j : A.length <= 60) (m : S.length <= 60) : (uK S A).length <= 120 := by
 unfold uK
 rw [List.length_append, List.length_map, List.length_map]
 have h1 := yf (S := S) (stK S) (dnK S)
 have h2 : (stK S).length = S.length := by unfold stK; rw [mG, List.length_map]
 omega
theorem Br {w h : Nat} (I : Gd g w h) (hb : g.Z.any p4 = false) (m : g.Z.length <= 40) (J : -2097153 <= level /\ level <= 2097153) : gB 20000 g level = some ((pr (mq g w h level)).map (toL (crP g level))) := by
 have hs := DI I hb m level
 have z := Bm I level
 have U : ∀ e, Cr g.Z level e -> cC 20000 g level e = some (crP g level e) := fun e he => (sY J he).1
 have O := GO (n := 20000) (level := level) (by omega) I hb g.X0 g.Y0 g.Step g.Width g.Height
 have fold := zQ (mq g w h level) [] (by rw [List.nil_append]; exact z)
 rw [List.map_nil, List.nil_append] at fold
 rw [fold] at O
 generalize eS : mq g w h level = S at *
 have T : (stK S).length = S.length := by unfold stK; rw [mG, List.length_map]
 have Y : (opK S).length <= 60 := by
  have h1 : (opK S).length <= (stK S).length := List.length_filter_le _ _
  have := hs.len; omega
 have j : ∀ {e}, Cr g.Z level e -> (crP g level e).A = e.e0 /\ (crP g level e).B = e.e1 := fun he => ⟨(sY J he).2.1, (sY J he).2.2.1⟩
 refine Ab (S := stK S) O (by have := hs.len; show S.length <= 100000; omega) (fun p hp => ?_) T ?_
 · have hp : p.Perm (S.map (·.1)) := hp
   have D : ∀ e ∈ p, Cr g.Z level e := fun e he => by
    obtain ⟨q, hq, rfl⟩ := List.mem_map.1 (hp.mem_iff.1 he)
    exact (hs.ge.k q hq).1
   rw [Cu (by rw [hp.length_eq, List.length_map]; have := hs.len; omega) fun e he => by have := (D e he).bd; omega]
   congr 1
   refine vo (κ := kap) (wB ?_) hs.keys fun e => ?_
   · have h1 : p.Nodup := hp.nodup_iff.2 (by unfold List.Nodup; rw [List.pairwise_map]; exact z.imp fun h => h.1)
     exact List.Pairwise.imp_of_mem (fun {a b} ha hb C M => C (sK m (D a ha) (D b hb) M)) h1
   · unfold stK
     rw [jN, jN, hp.mem_iff]
 · have key := Ea (F := iT (ltK kC)) z hs.ge U hs.len hs.nd (by have := hs.len; omega) (fun e he => hs.cr he) ?_
   · rw [T] at key
     obtain ⟨r, e, c, E, hr⟩ := key
     show qo 20000 g level (S, bk S) (S.length : Int) (stK S) = _
     rw [e, hr, E.BK (fun _ => Iff.rfl)]
     congr 1
     refine xD fun y N => ?_
     obtain ⟨e, t, h1, h2⟩ := hs.B8 (fun _ => Iff.rfl) y N
     exact AI h1 (j h2)
   · intro c E
     have E : Op S (crP g level) (opK S) c := E
     rw [E.BK (fun _ => Iff.rfl)]
     refine ⟨Gf (by rw [List.length_map]; have := zz Y hs.len; omega) (fun y N => ?_) ?_, mG⟩
     · obtain ⟨x, hx, rfl⟩ := List.mem_map.1 N
       obtain ⟨e, t, h1, h2⟩ := hs.B8 (fun _ => Iff.rfl) x hx
       exact EN m h1 (j h2) h2
     · rw [List.pairwise_map]
       refine (hs.pwL (fun _ => Iff.rfl) (hs.nd.sublist List.filter_sublist)).imp_of_mem fun {a b} ha hb C D => C ?_
       obtain ⟨e, t, h1, h2⟩ := hs.B8 (fun _ => Iff.rfl) a ha
       obtain ⟨f, u, h3, h4⟩ := hs.B8 (fun _ => Iff.rfl) b hb
       rw [AI h1 (j h2), AI h3 (j h4)] at D
       exact D
end
end Go.L


set_option linter.all false
namespace Go.L
open Go Go.Eng
def loT (k w : Int) : A3 Int := A3.mk k (k + 1) (k + w + 1)
def upT (k w : Int) : A3 Int := A3.mk k (k + w + 1) (k + w)
def cel (w j i : Nat) : Int := ((j * w + i : Nat) : Int)
theorem CR {w h : Nat} (hw : 2 <= w /\ w <= 64) (z : 2 <= h /\ h <= 64) {t : A3 Int} : t ∈ lK (w : Int) (w - 1) (h - 1) ↔ ∃ j i : Nat, j < h - 1 /\ i < w - 1 /\ (t = loT (cel w j i) w \/ t = upT (cel w j i) w) := by
 unfold lK A6
 rw [List.mem_flatMap]
 constructor
 · rintro ⟨j, q, m⟩
   obtain ⟨i, hi, m⟩ := List.mem_flatMap.1 m
   rw [List.mem_range] at q hi
   rw [xx hw.2 (by omega) (by omega)] at m
   simp only [List.mem_cons, List.not_mem_nil, or_false] at m
   exact ⟨j, i, q, hi, m⟩
 · rintro ⟨j, i, q, hi, m⟩
   refine ⟨j, List.mem_range.2 q, List.mem_flatMap.2 ⟨i, List.mem_range.2 hi, ?_⟩⟩
   rw [xx hw.2 (by omega) (by omega)]
   simp only [List.mem_cons, List.not_mem_nil, or_false]
   exact m
structure Lw (g : al) (w h : Nat) (level : Int) : Prop where
 data : ∀ k : Nat, k < g.Z.length -> gt g.Z (k : Int) ≠ -2147483648
 low : ∀ j i : Nat, j < h -> i < w -> (i = 0 \/ j = 0 \/ i = w - 1 \/ j = h - 1) -> abv g.Z level (cel w j i) = false
section
variable {g : al} {w h : Nat} {level : Int}
theorem Lw.all (z : Lw g w h level) (j : Gd g w h) : lD g w h = lK (w : Int) (w - 1) (h - 1) := by
 unfold lD
 rw [j.W]
 refine List.filter_eq_self.2 fun t C => ?_
 have q : t ∈ lK g.Width (w - 1) (h - 1) := by rw [j.W]; exact C
 obtain ⟨i0, i1, i2⟩ := An j q
 have key : ∀ {k : Int}, inR k g.Z.length = true -> (gt g.Z k != -2147483648) = true := by
  intro k D
  have E := jg.1 D
  obtain ⟨m, rfl⟩ : ∃ m : Nat, k = (m : Int) := ⟨k.toNat, by omega⟩
  simpa using z.data m (by omega)
 unfold np
 rw [key i0, key i1, key i2]; rfl
theorem Ap {w j i : Nat} : cel w (j + 1) i = cel w j i + w := by
 unfold cel
 rw [Nat.add_mul, Nat.one_mul]; omega
theorem x7 {w j i : Nat} : cel w j (i + 1) = cel w j i + 1 := by unfold cel; omega
end
end Go.L


set_option linter.all false
namespace Go.L
open Go Go.Eng
theorem we {S : List (K2 × K2)} {P : K2 -> Prop} (h : Ge S P) : ∀ (L : List K2) (D : K2 -> Bool), (∀ e ∈ L, P e) -> ∀ l ∈ CLs S L D, ∀ x ∈ l, P x
 | [], _, _, l, j => by cases j
 | e :: L, D, m, l, j => by
  unfold CLs at j
  split at j
  · exact we h L _ (fun e he => m e (List.mem_cons_of_mem _ he)) l j
  · rcases List.mem_cons.1 j with rfl | j
    · exact fun x hx => AF h 100 D e (m e (by simp)) x hx
    · exact we h L _ (fun e he => m e (List.mem_cons_of_mem _ he)) l j
section
variable {g : al} {level : Int} {S : List (K2 × K2)}
theorem vh {x : Ln} : x ∈ pr S ↔ (∃ e ∈ opK S, x = (false, path S e)) \/ ∃ l ∈ CLs S (stK S) (dnK S), x = (true, l) := by
 unfold pr uK opL
 rw [jN, List.mem_append, List.mem_map, List.mem_map]
 constructor
 · rintro (⟨e, h, rfl⟩ | ⟨e, h, rfl⟩)
   · exact .inl ⟨e, h, rfl⟩
   · exact .inr ⟨e, h, rfl⟩
 · rintro (⟨e, h, rfl⟩ | ⟨e, h, rfl⟩)
   · exact .inl ⟨e, h, rfl⟩
   · exact .inr ⟨e, h, rfl⟩
theorem rK {α β : Type} [Inhabited α] [Inhabited β] {f : α -> β} {l : List α} {k : Nat} (h : k < l.length) : gt (l.map f) (k : Int) = f l[k] := by
 rw [A9 (by rw [List.length_map]; exact h), List.getElem_map]
end
end Go.L


set_option linter.all false
namespace Go.L
open Go Go.Eng
section
variable {S : List (K2 × K2)}
theorem BN {z : K2} : ∀ {f : Nat} {D : K2 -> Bool} {e : K2}, 0 < (W S f D e).length -> (W S f D e).getD 0 z = e
 | 0, D, e, h => by simp [W] at h
 | f + 1, D, e, h => by
  unfold W at h ⊢
  by_cases j : D e = true
  · rw [if_pos j] at h; simp at h
  · rw [if_neg j]; rfl
theorem AA {z : K2} : ∀ (f : Nat) (D : K2 -> Bool) (e : K2) (k : Nat), k + 1 < (W S f D e).length -> (W S f D e).getD (k + 1) z = nxt S ((W S f D e).getD k z)
 | 0, D, e, k, h => by simp [W] at h
 | f + 1, D, e, k, h => by
  unfold W at h ⊢
  by_cases j : D e = true
  · rw [if_pos j] at h; simp at h
  · rw [if_neg j] at h ⊢
    by_cases m : cD S e = true
    · rw [if_pos m] at h ⊢
      rw [List.length_cons] at h
      cases k with
      | zero => exact BN (by omega)
      | succ k => exact AA f _ _ k (by omega)
    · rw [if_neg m] at h; simp at h
theorem ve : ∀ (f : Nat) (D : K2 -> Bool) (e : K2), (W S f D e).Nodup
 | 0, D, e => by simp [W]
 | f + 1, D, e => by
  unfold W
  by_cases j : D e = true
  · rw [if_pos j]; simp
  · rw [if_neg j]
    by_cases m : cD S e = true
    · rw [if_pos m, List.nodup_cons]
      refine ⟨fun hm => ?_, ve f _ _⟩
      have := yV f _ _ _ hm
      simp at this
    · rw [if_neg m]; simp
theorem sX {l : List K2} {x : K2} (h : x ∈ l) (z : K2) : ∃ k, k < l.length /\ l.getD k z = x := by
 obtain ⟨k, j, e⟩ := List.getElem_of_mem h
 exact ⟨k, j, by simp [List.getD, geT j, e]⟩
theorem nf {l : List K2} {k : Nat} (h : k < l.length) (z : K2) : l.getD k z ∈ l := by
 simp only [List.getD, geT h, Option.getD_some]
 exact List.getElem_mem h
theorem getD_inj {l : List K2} (m : l.Nodup) {j k : Nat} (q : j < l.length) (C : k < l.length) {z : K2} (e : l.getD j z = l.getD k z) : j = k := by
 simp only [List.getD, geT q, geT C, Option.getD_some] at e
 exact (List.getElem_inj m).1 e
structure Cyc (S : List (K2 × K2)) (l : List K2) : Prop where
 pos : 0 < l.length
 nd : l.Nodup
 st : ∀ x ∈ l, cD S x = true
 go : ∀ k, k < l.length -> l.getD ((k + 1) % l.length) (A2.mk 0 0) = nxt S (l.getD k (A2.mk 0 0))
def Led (S : List (K2 × K2)) (D : K2 -> Bool) : Prop := ∀ x, cD S x = true -> D x = false -> cD S (nxt S x) = true /\ D (nxt S x) = false
theorem zp {j : K2 -> Bool} (h : Led S j) : ∀ (f : Nat) (D : K2 -> Bool) (e : K2), cD S e = true -> j e = false -> ∀ x ∈ W S f D e, cD S x = true
 | 0, _, _, _, _, x, hx => by cases hx
 | f + 1, D, e, he, m, x, hx => by
  unfold W at hx
  by_cases q : D e = true
  · rw [if_pos q] at hx; cases hx
  · rw [if_neg q, if_pos he] at hx
    rcases List.mem_cons.1 hx with rfl | hx
    · exact he
    · exact zp h f _ _ (h e he m).1 (h e he m).2 x hx
theorem Hp (hp : S.Pairwise Rq) (Y : S.length <= 60) {D : K2 -> Bool} (T : Cl S D) (U : Led S D) {e : K2} (he : cD S e = true) (hd : D e = false) : Cyc S (W S 100 D e) /\ e ∈ W S 100 D e := by
 have j := zp U 100 D e he hd
 have E := ve (S := S) 100 D e
 have I := yV (S := S) 100 D e
 have C : ∀ x ∈ W S 100 D e, nxt S x ∈ W S 100 D e := fun x hx => by
  rcases yp 100 D e x _ (by have := w7 S D; omega) hx (j x hx) rfl with h1 | h1
  · exact h1
  · have := I x hx
    rw [(T x (j x hx)).2 h1] at this; cases this
 have q := AA (S := S) (z := A2.mk 0 0) 100 D e
 obtain ⟨t, N⟩ := AM (S := S) (f := 100) (by omega) hd
 generalize W S 100 D e = l at *
 have J : 0 < l.length := by rw [N]; simp
 refine ⟨⟨J, E, j, fun k O => ?_⟩, by rw [N]; simp⟩
 by_cases M : k + 1 < l.length
 · rw [Nat.mod_eq_of_lt M]; exact q k M
 · have e1 : k + 1 = l.length := by omega
   rw [e1, Nat.mod_self]
   have hx := nf O (A2.mk 0 0)
   obtain ⟨m, hm, em⟩ := sX (C _ hx) (A2.mk 0 0)
   cases m with
   | zero => exact em
   | succ m =>
    rw [q m hm] at em
    have := u4 hp (j _ (nf (by omega) _)) (j _ hx) em
    have := getD_inj E (by omega) O this
    omega
theorem Ck (hp : S.Pairwise Rq) {l : List K2} (m : Cyc S l) {x : K2} (hx : cD S x = true) : x ∈ l ↔ nxt S x ∈ l := by
 constructor
 · intro hm
   obtain ⟨k, q, rfl⟩ := sX hm (A2.mk 0 0)
   rw [<- m.go k q]
   exact nf (Nat.mod_lt _ m.pos) _
 · intro hm
   obtain ⟨k, q, e⟩ := sX hm (A2.mk 0 0)
   have key : ∃ j, j < l.length /\ (j + 1) % l.length = k := by
    cases k with
    | zero => exact ⟨l.length - 1, by omega, by rw [show l.length - 1 + 1 = l.length by omega, Nat.mod_self]⟩
    | succ k => exact ⟨k, by omega, Nat.mod_eq_of_lt q⟩
   obtain ⟨j, z, C⟩ := key
   have := m.go j z
   rw [C, e] at this
   rw [u4 hp hx (m.st _ (nf z _)) this]
   exact nf z _
theorem EY (hp : S.Pairwise Rq) {D : K2 -> Bool} (j : Cl S D) {l : List K2} (m : Cyc S l) : Cl S (fun x => l.contains x || D x) := by
 intro x hx
 have h1 := Ck hp m hx
 have h2 := j x hx
 simp only [Bool.or_eq_true, List.contains_iff_mem]
 exact or_congr h1 h2
theorem Dp (hp : S.Pairwise Rq) {D : K2 -> Bool} (j : Led S D) {l : List K2} (m : Cyc S l) : Led S (fun x => l.contains x || D x) := by
 intro x hx hd
 simp only [Bool.or_eq_false_iff] at hd
 obtain ⟨a, b⟩ := j x hx hd.2
 refine ⟨a, ?_⟩
 have q : ¬ nxt S x ∈ l := fun k => by
  have := (Ck hp m hx).2 k
  simp [this] at hd
 simp only [Bool.or_eq_false_iff]
 exact ⟨by simpa using q, b⟩
theorem wc (hp : S.Pairwise Rq) (m : S.length <= 60) : ∀ (L : List K2) (D : K2 -> Bool), Cl S D -> Led S D -> (∀ e ∈ L, cD S e = true) ->
  (CLs S L D).flatten.Nodup /\ (∀ x ∈ (CLs S L D).flatten, D x = false) /\ (∀ e ∈ L, D e = true \/ e ∈ (CLs S L D).flatten) /\ ∀ l ∈ CLs S L D, Cyc S l
 | [], D, _, _, _ => by simp [CLs]
 | e :: L, D, q, z, C => by
  unfold CLs
  by_cases hd : D e = true
  · rw [if_pos hd]
    obtain ⟨a, b, c, d⟩ := wc hp m L D q z fun x hx => C x (List.mem_cons_of_mem _ hx)
    refine ⟨a, b, fun x hx => ?_, d⟩
    rcases List.mem_cons.1 hx with rfl | hx
    · exact .inl hd
    · exact c x hx
  · have hd : D e = false := by simpa using hd
    rw [if_neg (by simp [hd])]
    obtain ⟨hc, hm⟩ := Hp hp m q z (C e (by simp)) hd
    have j := yV (S := S) 100 D e
    obtain ⟨a, b, c, d⟩ := wc hp m L _ (EY hp q hc) (Dp hp z hc) fun x hx => C x (List.mem_cons_of_mem _ hx)
    generalize W S 100 D e = l at *
    have E : ∀ x ∈ (CLs S L fun x => l.contains x || D x).flatten, x ∉ l /\ D x = false := fun x hx => by
     have := b x hx
     simp only [Bool.or_eq_false_iff] at this
     exact ⟨by simpa using this.1, this.2⟩
    rw [List.flatten_cons]
    refine ⟨List.nodup_append.2 ⟨hc.nd, a, fun x hx y I e => (E y I).1 (e ▸ hx)⟩, fun x hx => ?_, fun x hx => ?_, fun x hx => ?_⟩
    · rcases List.mem_append.1 hx with hx | hx
      · exact j x hx
      · exact (E x hx).2
    · rcases List.mem_cons.1 hx with rfl | hx
      · exact .inr (List.mem_append.2 (.inl hm))
      · rcases c x hx with hx | hx
        · simp only [Bool.or_eq_true, List.contains_iff_mem] at hx
          rcases hx with hx | hx
          · exact .inr (List.mem_append.2 (.inl hx))
          · exact .inl hx
        · exact .inr (List.mem_append.2 (.inr hx))
    · rcases List.mem_cons.1 hx with rfl | hx
      · exact hc
      · exact d x hx
theorem y6 {γ : Type} (lt : γ -> γ -> Bool) (x : γ) : ∀ l : List γ, (ma lt x l).Perm (x :: l)
 | [] => List.Perm.refl _
 | y :: l => by
  unfold ma
  split
  · exact ((y6 lt x l).cons y).trans (List.Perm.swap x y l)
  · exact List.Perm.refl _
theorem tI {γ : Type} (lt : γ -> γ -> Bool) : ∀ l : List γ, (iT lt l).Perm l
 | [] => List.Perm.refl _
 | x :: l => (y6 lt x _).trans ((tI lt l).cons x)
end
end Go.L


set_option linter.all false
namespace Go.L
open Go Go.Eng
def ctr (ax ay bx by' : Rat) : Int := if ay <= 0 /\ 0 < by' /\ 0 < crQ ax ay bx by' then 1 else if 0 < ay /\ by' <= 0 /\ crQ ax ay bx by' < 0 then -1 else 0
theorem nN {a b : Rat} (h : 0 < a) (k : 0 < b) : 0 < a * b := Rat.mul_pos h k
theorem Da {a b : Rat} (h : a < 0) (k : b < 0) : 0 < a * b := by
 have := Rat.mul_pos (a := -a) (b := -b) (by grind) (by grind)
 grind
theorem CU (a : Rat) : a < 0 \/ a = 0 \/ 0 < a := by
 by_cases h : a < 0
 · exact .inl h
 · by_cases k : 0 < a
   · exact .inr (.inr k)
   · exact .inr (.inl (by grind))
theorem qA {a b : Rat} (h : a ≠ 0) (k : b ≠ 0) : a * b ≠ 0 := by
 rcases CU a with h1 | h1 | h1
 · rcases CU b with j | j | j
   · have := Da h1 j; grind
   · exact absurd j k
   · have := Rat.mul_pos (a := -a) (b := b) (by grind) j; grind
 · exact absurd h1 h
 · rcases CU b with j | j | j
   · have := Rat.mul_pos (a := a) (b := -b) h1 (by grind); grind
   · exact absurd j k
   · have := nN h1 j; grind
def Bt (v : Int) (y : Rat) : Prop := (v : Rat) < y /\ y < ((v + 1 : Int) : Rat)
theorem icl {a b : Int} (h : a <= b) : (a : Rat) <= (b : Rat) := Rat.intCast_le_intCast.2 h
theorem ics (v : Int) : ((v + 1 : Int) : Rat) = (v : Rat) + 1 := by rw [Rat.intCast_add]; rfl
theorem Bt.pos {v : Int} {y : Rat} (h : Bt v y) (k : 0 <= v) : 0 < y := by
 have := icl k; have := h.1
 rw [Rat.intCast_zero] at *
 grind
theorem Bt.neg {v : Int} {y : Rat} (h : Bt v y) (k : v <= -1) : y < 0 := by
 have h1 := icl (show v + 1 <= 0 by omega); have := h.2
 rw [Rat.intCast_zero] at h1
 grind
theorem Bt.ne {v : Int} {y : Rat} (h : Bt v y) : y ≠ 0 := by
 by_cases k : 0 <= v
 · have := h.pos k; grind
 · have := h.neg (by omega); grind
theorem yb {v : Int} (h : 1 <= v) : 0 < (v : Rat) := by
 have := icl h
 rw [Rat.intCast_one] at this
 grind
theorem BU {v : Int} (h : v <= -1) : (v : Rat) < 0 := by
 have := icl h
 rw [Rat.intCast_neg, Rat.intCast_one] at this
 grind
theorem GA {ax ay bx by' : Rat} : onQ ax ay bx by' = true ↔ crQ ax ay bx by' = 0 /\ ax * bx <= 0 /\ ay * by' <= 0 := by
 unfold onQ
 rw [decide_eq_true_iff]
 constructor
 · rintro ⟨a, b⟩
   exact ⟨a, (x6 (by unfold crQ at a; exact a)).1 b⟩
 · rintro ⟨a, b⟩
   exact ⟨a, (x6 (by unfold crQ at a; exact a)).2 b⟩
theorem xU {s r : Rat} (hs : 0 < s) : 0 < s * r ↔ 0 < r := by
 constructor
 · intro h
   apply Classical.byContradiction
   intro k
   have : 0 <= s * (-r) := Rat.mul_nonneg (by grind) (by grind)
   grind
 · exact nN hs
theorem C8 {s r : Rat} (hs : 0 < s) : s * r < 0 ↔ r < 0 := by
 have := xU (s := s) (r := -r) hs
 grind
theorem HN {s r : Rat} (hs : 0 < s) : s * r <= 0 ↔ r <= 0 := by
 have := xU (s := s) (r := r) hs
 grind
theorem E9 {s r : Rat} (hs : 0 < s) : s * r = 0 ↔ r = 0 := by
 have h1 := xU (s := s) (r := r) hs; have h2 := C8 (s := s) (r := r) hs
 constructor
 · intro h; rcases CU r with h | h | h <;> grind
 · intro h; rw [h, Rat.mul_zero]
end Go.L

