import Derived.Test.YtecdcgfclgmbpaaGreatSidL51e
import Derived.Test.YtecdcgfclgmbpaaGreatSidL51q
import Derived.Test.YtecdcgfclgmbpaaGreatSidLsrt
import Derived.Test.YtecdcgfclgmbpaaGreatSidL02oB
import Derived.Test.YtecdcgfclgmbpaaGreatSidL02oB
set_option linter.all false
namespace Go.L
open Go Go.Eng
theorem zo {α : Type} {R : α -> α -> Prop} (hs : ∀ a b, R a b -> R b a) : ∀ {l : List α}, l.Pairwise R -> ∀ a ∈ l, ∀ b ∈ l, a ≠ b -> R a b
 | [], _, _, h, _, _, _ => by cases h
 | x :: l, hp, a, ha, b, hb, hn => by
  rw [List.pairwise_cons] at hp
  rcases List.mem_cons.1 ha with rfl | ha1 <;> rcases List.mem_cons.1 hb with rfl | hb1
  · exact absurd rfl hn
  · exact hp.1 b hb1
  · exact hs _ _ (hp.1 a ha1)
  · exact zo hs hp.2 a ha1 b hb1 hn
section
variable {S : List (K2 × K2)}
abbrev nxt (S : List (K2 × K2)) (x : K2) : K2 := getM (A2.mk 0 0) S x
theorem wW (hS : S.Pairwise Rq) {x y : K2} (hx : dB S x = true) (hy : dB S y = true) (e : nxt S x = nxt S y) : x = y := by
 apply Classical.byContradiction
 intro hn
 have h1 := nT (z := (A2.mk 0 0 : K2)) hx
 have h2 := nT (z := (A2.mk 0 0 : K2)) hy
 have := zo (R := Rq) (fun a b h => ⟨fun e => h.1 e.symm, fun e => h.2 e.symm⟩) hS _ h1 _ h2 (fun e => hn (congrArg Prod.fst e))
 exact this.2 e
def isS (S : List (K2 × K2)) (e : K2) : Prop := ∀ x, dB S x = true -> nxt S x ≠ e
theorem zY {e e' : K2} (h : isS S e) (hm : e ∈ path S e') : e = e' := by
 rcases zE 100 _ e' e hm with h1 | ⟨x, _, hx, h1⟩
 · exact h1
 · exact absurd h1.symm (h x hx)
structure Op (S : List (K2 × K2)) (cr : K2 -> ak) (L : List K2) (c : List (K2 × Bool) × List ah) : Prop where
 cl : Cl S (dn c.1)
 mem : ∀ x, dn c.1 x = true ↔ ∃ e ∈ L, x ∈ path S e
 out : c.2 = L.map fun e => ah.mk false ((path S e).map cr)
theorem Fb {cr : K2 -> ak} : Op S cr [] ([], []) := ⟨fun x _ => Iff.rfl, fun x => by simp [dn, getM], rfl⟩
theorem Op.step (hS : S.Pairwise Rq) (hl : S.length <= 60) {cr : K2 -> ak} {L : List K2} {c : List (K2 × Bool) × List ah} (h : Op S cr L c) {e : K2} (he : isS S e) (hn : e ∉ L) :
  dn c.1 e = false /\ W S 100 (dn c.1) e = path S e /\ Op S cr (L ++ [e]) (lD c.1 (path S e), c.2 ++ [ah.mk false ((path S e).map cr)]) := by
 have hd : dn c.1 e = false := by
  cases hc : dn c.1 e with
  | false => rfl
  | true =>
   obtain ⟨e', he', hm⟩ := (h.mem e).1 hc
   rw [zY he hm] at hn
   exact absurd he' hn
 refine ⟨hd, E8 h.cl hd, ⟨fun x hx => ?_, fun x => ?_, ?_⟩⟩
 · rw [oa, oa]
   constructor
   · rintro (hp | hp)
     · rcases zS 100 (fun _ => false) e x _ (by have := Cu S (fun _ => false); omega) hp hx rfl with h1 | h1
       · exact .inl h1
       · cases h1
     · exact .inr ((h.cl x hx).1 hp)
   · rintro (hp | hp)
     · rcases zE 100 _ e _ hp with h1 | ⟨y, hy, hy2, h1⟩
       · exact absurd h1 (he x hx)
       · rw [wW hS hx hy2 h1]; exact .inl hy
     · exact .inr ((h.cl x hx).2 hp)
 · rw [oa, h.mem]
   constructor
   · rintro (hp | ⟨e', he', hp⟩)
     · exact ⟨e, by simp, hp⟩
     · exact ⟨e', by simp [he'], hp⟩
   · rintro ⟨e', he', hp⟩
     rcases List.mem_append.1 he' with h1 | h1
     · exact .inr ⟨e', h1, hp⟩
     · rw [List.mem_singleton] at h1; subst h1; exact .inl hp
 · rw [List.map_append, h.out]; rfl
def CLs (S : List (K2 × K2)) : List K2 -> (K2 -> Bool) -> List (List K2)
 | [], _ => []
 | e :: L, D => if D e = true then CLs S L D else W S 100 D e :: CLs S L (fun x => (W S 100 D e).contains x || D x)
theorem vM (l : List K2) (D : List (K2 × Bool)) : dn (lD D l) = fun x => l.contains x || dn D x := by
 funext x
 have := oa l D x
 cases h : dn (lD D l) x with
 | true =>
  rcases this.1 h with h | h
  · simp [h]
  · simp [h]
 | false =>
  rw [h] at this
  have n1 : ¬ x ∈ l := fun k => by have := this.2 (.inl k); cases this
  have n2 : dn D x = false := by
   cases hc : dn D x with
   | false => rfl
   | true => have := this.2 (.inr hc); cases this
  rw [n2]; simp [n1]
theorem Cn {e : K2} {L : List K2} {D : K2 -> Bool} (h : D e = true) : CLs S (e :: L) D = CLs S L D := by
 conv => lhs; unfold CLs
 rw [if_pos h]
theorem DW {e : K2} {L : List K2} {D : List (K2 × Bool)} (h : dn D e = false) : CLs S (e :: L) (dn D) = W S 100 (dn D) e :: CLs S L (dn (lD D (W S 100 (dn D) e))) := by
 conv => lhs; unfold CLs
 rw [if_neg (by simp [h]), vM]
theorem wX : ∀ (L : List K2) (D : K2 -> Bool), (CLs S L D).length <= L.length
 | [], _ => Nat.le_refl _
 | e :: L, D => by
  unfold CLs
  split
  · have := wX L D; rw [List.length_cons]; omega
  · have := wX L (fun x => (W S 100 D e).contains x || D x)
    rw [List.length_cons, List.length_cons]; omega
theorem qj : ∀ (L : List K2) (D : K2 -> Bool), (∀ l ∈ CLs S L D, ∃ e t, l = e :: t /\ e ∈ L /\ D e = false) /\ (CLs S L D).Pairwise (fun l m => l.head? ≠ m.head?)
 | [], _ => ⟨fun l h => (by cases h), .nil⟩
 | e :: L, D => by
  unfold CLs
  by_cases hd : D e = true
  · rw [if_pos hd]
    obtain ⟨h1, h2⟩ := qj L D
    exact ⟨fun l hl => by obtain ⟨a, t, e1, e2, e3⟩ := h1 l hl; exact ⟨a, t, e1, List.mem_cons_of_mem _ e2, e3⟩, h2⟩
  · have hd : D e = false := by simpa using hd
    rw [if_neg (by simp [hd])]
    obtain ⟨h1, h2⟩ := qj L (fun x => (W S 100 D e).contains x || D x)
    obtain ⟨t0, ht0⟩ := z8 (S := S) (f := 100) (by omega) hd
    refine ⟨fun l hl => ?_, List.pairwise_cons.2 ⟨fun l hl => ?_, h2⟩⟩
    · rcases List.mem_cons.1 hl with rfl | hl
      · exact ⟨e, t0, ht0, by simp, hd⟩
      · obtain ⟨a, t, e1, e2, e3⟩ := h1 l hl
        exact ⟨a, t, e1, List.mem_cons_of_mem _ e2, by rw [Bool.or_eq_false_iff] at e3; exact e3.2⟩
    · obtain ⟨a, t, e1, e2, e3⟩ := h1 l hl
      rw [ht0, e1]
      intro h
      have h : e = a := by simpa using h
      rw [Bool.or_eq_false_iff] at e3
      have := e3.1
      rw [ht0, h] at this
      simp at this
end
end Go.L


set_option linter.all false
namespace Go.L
open Go Go.Eng
theorem zu {S : List (K2 × K2)} (hS : S.Pairwise Rq) {e : K2} (h : getM false (S.map fun q => (q.2, true)) e = false) : isS S e := by
 rintro x hx rfl
 have hm := nT (z := (A2.mk 0 0 : K2)) hx
 have : getM false (S.map fun q => (q.2, true)) (nxt S x) = true := pU (by
  rw [List.pairwise_map]; exact hS.imp fun h => h.2) (List.mem_map.2 ⟨_, hm, rfl⟩)
 rw [this] at h; cases h
def bk (S : List (K2 × K2)) : List (K2 × Bool) := S.map fun q => (q.2, true)
def opn (S : List (K2 × K2)) (e : K2) : Bool := !getM false (bk S) e
def toC (cr : K2 -> ak) (b : Bool) (l : List K2) : ah := ah.mk b (l.map cr)
theorem xn {α : Type} [Inhabited α] {l : List α} {k : Nat} (h : k < l.length) : gt l (k : Int) = l[k] := by
 rw [pe]; simp [List.getD, geT h]
theorem sW {α : Type} {l : List α} {k : Nat} (h : k < l.length) : l.take (k + 1) = l.take k ++ [l[k]] := by
 rw [List.take_add_one, geT h]; rfl
theorem zI {l : List K2} {k : Nat} (h : k < l.length) (hn : l.Nodup) : l[k] ∉ l.take k := by
 have h1 : (l.take (k + 1)).Nodup := hn.sublist (List.take_sublist _ _)
 rw [sW h] at h1
 intro hm
 exact (List.nodup_append.1 h1).2.2 _ hm _ (by simp) rfl
theorem BS {g : al} {level : Int} {S : List (K2 × K2)} {P : K2 -> Prop} (hS : S.Pairwise Rq) (hG : Ge S P) (hP : ∀ e, P e -> cj 20000 g level e = some (crP g level e)) (hl : S.length <= 60)
  {K : List K2} (hK : K.Nodup) (hKl : K.length <= 60) (hKP : ∀ e ∈ K, P e) {F : List ah -> List ah}
  (hF : ∀ c, Op S (crP g level) (K.filter (opn S)) c -> aF 20000 (c.2 ++ (CLs S K (dn c.1)).map (toC (crP g level) true)) = some (F (c.2 ++ (CLs S K (dn c.1)).map (toC (crP g level) true))) /\
   (F (c.2 ++ (CLs S K (dn c.1)).map (toC (crP g level) true))).length = (c.2 ++ (CLs S K (dn c.1)).map (toC (crP g level) true)).length) :
  Ok (pX 20000 g level (S, bk S) (K.length : Int) K) fun r => ∃ c, Op S (crP g level) (K.filter (opn S)) c /\ r = F (c.2 ++ (CLs S K (dn c.1)).map (toC (crP g level) true)) := by
 unfold pX
 refine Ok.bd (R := fun c => Op S (crP g level) (K.filter (opn S)) c /\ c.2.length <= 60) ?_ ?_
 · refine jQ (γ := List (K2 × Bool) × List ah) (len := K.length) (fun c x => (c.1, c.2, x)) (fun k c => Op S (crP g level) ((K.take k).filter (opn S)) c /\ c.2.length <= k) (by omega) (by omega) (c0 := ([], [])) ⟨Fb, by simp⟩ ?_ ?_
   · rintro again k c hk ⟨hO, hc⟩ ih
     have e1 := xn hk
     have e2 : (K.take (k + 1)).filter (opn S) = (K.take k).filter (opn S) ++ (if opn S K[k] = true then [K[k]] else []) := by
      rw [sW hk, List.filter_append]
      by_cases h : opn S K[k] = true
      · rw [if_pos h]; simp [h]
      · rw [if_neg h]; simp [h]
     have hm : K[k] ∉ (K.take k).filter (opn S) := fun h => zI hk hK (List.mem_filter.1 h).1
     have hp := hKP _ (List.getElem_mem hk)
     rw [e2] at ih
     refine Ok.cd (fun _ => ?_) (fun h => by have := dcF h; omega)
     refine Ok.gd (by rw [b9]; exact decide_eq_true hk) ?_
     rw [e1]
     refine Ok.cd (fun h => ?_) (fun h => ?_)
     · have h : opn S K[k] = true := h
       rw [if_pos h] at ih
       have hst : isS S K[k] := zu hS (by unfold opn bk at h; simpa using h)
       obtain ⟨hd, hW, hO2⟩ := hO.step hS hl hst hm
       refine Ok.bde (yu hG hP hl hp hd (by omega)) ?_
       rw [hW]
       exact ih (lD c.1 (path S K[k]), c.2 ++ [ah.mk false ((path S K[k]).map (crP g level))]) ⟨hO2, by dsimp only; rw [List.length_append, List.length_singleton]; omega⟩
     · have h : opn S K[k] = false := h
       rw [if_neg (by rw [h]; simp), List.append_nil] at ih
       exact ih c ⟨hO, by omega⟩
   · rintro again c ⟨hO, hc⟩
     rw [List.take_length] at hO
     exact Ok.cd (fun h => by have := dcT h; omega) (fun _ => aC.2 ⟨hO, show c.2.length <= 60 by omega⟩)
 · rintro c0 ⟨hO, hc0⟩
   refine Ok.bd (R := fun o => o = c0.2 ++ (CLs S K (dn c0.1)).map (toC (crP g level) true)) ?_ ?_
   · refine jQ (γ := List (K2 × Bool) × List ah) (len := K.length) (fun c x => (c.1, c.2, x)) (fun k c => c.2 ++ (CLs S (K.drop k) (dn c.1)).map (toC (crP g level) true) = c0.2 ++ (CLs S K (dn c0.1)).map (toC (crP g level) true) /\ c.2.length <= 60 + k) (by omega) (by omega) (c0 := c0) ⟨rfl, by omega⟩ ?_ ?_
     · rintro again k c hk ⟨hE, hc⟩ ih
       have hp := hKP _ (List.getElem_mem hk)
       rw [List.drop_eq_getElem_cons hk] at hE
       refine Ok.cd (fun _ => ?_) (fun h => by have := dcF h; omega)
       refine Ok.gd (by rw [b9]; exact decide_eq_true hk) ?_
       rw [xn hk]
       refine Ok.cd (fun h => ?_) (fun h => ?_)
       · have h : dn c.1 K[k] = false := by
          have : (!dn c.1 K[k]) = true := h
          simpa using this
         refine Ok.bde (yu hG hP hl hp h (by omega)) ?_
         rw [DW h, List.map_cons] at hE
         refine ih (lD c.1 (W S 100 (dn c.1) K[k]), c.2 ++ [ah.mk true ((W S 100 (dn c.1) K[k]).map (crP g level))]) ⟨?_, by dsimp only; rw [List.length_append, List.length_singleton]; omega⟩
         rw [<- hE, List.append_assoc]; rfl
       · have h : dn c.1 K[k] = true := by
          have : (!dn c.1 K[k]) = false := h
          simpa using this
         rw [Cn h] at hE
         exact ih c ⟨hE, by omega⟩
     · rintro again c ⟨hE, hc⟩
       rw [List.drop_length] at hE
       refine Ok.cd (fun h => by have := dcT h; omega) (fun _ => aC.2 ?_)
       rw [<- hE]
       show c.2 = c.2 ++ []
       rw [List.append_nil]
   · rintro o rfl
     obtain ⟨f1, f2⟩ := hF c0 hO
     refine Ok.bde f1 (Ok.gd (decide_eq_true f2) (aC.2 ⟨c0, hO, rfl⟩))
end Go.L


set_option linter.all false
namespace Go.L
open Go Go.Eng
end Go.L


set_option linter.all false
namespace Go.L
open Go Go.Eng
def kap (e : K2) : Int := e.e0 * 4096 + e.e1
structure Cr (Z : List Int) (level : Int) (e : K2) : Prop where
 i0 : inR e.e0 Z.length = true
 i1 : inR e.e1 Z.length = true
 z0 : rY (gt Z e.e0)
 z1 : rY (gt Z e.e1)
 ne : gt Z e.e0 ≠ gt Z e.e1
 lt : e.e0 < e.e1
theorem Cr.bd {Z : List Int} {level : Int} {e : K2} (h : Cr Z level e) : 0 <= e.e0 /\ e.e0 < e.e1 /\ e.e1 < Z.length := by
 have a := j5.1 h.i0; have b := j5.1 h.i1; have := h.lt; omega
theorem sA {Z : List Int} {level : Int} (hZ : Z.length <= 40) {e f : K2} (he : Cr Z level e) (hf : Cr Z level f) (h : kap e = kap f) : e = f := by
 have a := he.bd; have b := hf.bd
 unfold kap at h
 obtain ⟨e0, e1⟩ := e; obtain ⟨f0, f1⟩ := f
 dsimp only at *
 have h0 : e0 = f0 := by omega
 subst h0
 have h1 : e1 = f1 := by omega
 rw [h1]
def crE (Z : List Int) (level : Int) (e : K2) : Rat := Rat.divInt (level - 2 * gt Z e.e0) (2 * (gt Z e.e1 - gt Z e.e0))
theorem uu {g : al} {level : Int} (hl : -2097153 <= level /\ level <= 2097153) {e : K2} (h : Cr g.Z level e) : cj 20000 g level e = some (crP g level e) /\ (crP g level e).A = e.e0 /\ (crP g level e).B = e.e1 /\ Qx (crP g level e).At (crE g.Z level e) 3 := by
 have key : Ok (cj 20000 g level e) fun c => c.A = e.e0 /\ c.B = e.e1 /\ Qx c.At (crE g.Z level e) 3 := by
  unfold cj
  have a := h.z0; have b := h.z1; have n := h.ne
  unfold rY at a b
  refine Ok.gd h.i0 (Ok.gd h.i1 ?_)
  rw [wrap64_in (n := 2 * gt g.Z e.e0) (by omega) (by omega), wrap64_in (n := level - 2 * gt g.Z e.e0) (by omega) (by omega), wrap64_in (n := gt g.Z e.e1 - gt g.Z e.e0) (by omega) (by omega), wrap64_in (n := 2 * (gt g.Z e.e1 - gt g.Z e.e0)) (by omega) (by omega)]
  refine Ok.bd (ED (by omega) (by omega) (by omega) (by omega) (by omega) (by omega)) ?_
  rintro v ⟨hv, -⟩
  exact aC.2 ⟨rfl, rfl, hv⟩
 obtain ⟨c, e1, e2⟩ := key
 have : crP g level e = c := by unfold crP; rw [e1]; rfl
 rw [this]; exact ⟨e1, e2⟩
theorem Ax {g : al} {level : Int} {w h : Nat} (hg : Gd g w h) (hb : g.Z.any n8 = false) : Ge (nZ g w h level) (Cr g.Z level) := by
 refine ⟨fun q hq => ?_⟩
 unfold nZ at hq
 obtain ⟨t, ht, e⟩ := List.mem_filterMap.1 hq
 have hT := Fw hb hg ht
 have t0 := hT 0 (by omega); have t1 := hT 1 (by omega); have t2 := hT 2 (by omega)
 change inR t.e0 g.Z.length = true /\ rY (gt g.Z t.e0) at t0
 change inR t.e1 g.Z.length = true /\ rY (gt g.Z t.e1) at t1
 change inR t.e2 g.Z.length = true /\ rY (gt g.Z t.e2) at t2
 have corner : ∀ {a b : Int}, (a, b) ∈ dE t -> (inR a g.Z.length = true /\ rY (gt g.Z a)) /\ inR b g.Z.length = true /\ rY (gt g.Z b) := by
  intro a b h
  simp only [dE, List.mem_cons, List.not_mem_nil, or_false, Prod.mk.injEq] at h
  rcases h with ⟨rfl, rfl⟩ | ⟨rfl, rfl⟩ | ⟨rfl, rfl⟩
  · exact ⟨t0, t1⟩
  · exact ⟨t1, t2⟩
  · exact ⟨t2, t0⟩
 have mk : ∀ {a b : Int}, (a, b) ∈ dE t -> abv g.Z level a ≠ abv g.Z level b -> Cr g.Z level (A2.mk (mn a b) (mx a b)) := by
  intro a b hm hn
  obtain ⟨⟨a1, a2⟩, b1, b2⟩ := corner hm
  have hz : gt g.Z a ≠ gt g.Z b := fun h => hn (by unfold abv; rw [h])
  have hab : a ≠ b := fun h => hz (by rw [h])
  unfold mn mx
  by_cases h : b < a
  · rw [if_pos h, if_neg (by omega)]; exact ⟨b1, a1, b2, a2, fun k => hz k.symm, h⟩
  · rw [if_neg h, if_pos (by omega)]; exact ⟨a1, b1, a2, b2, hz, by show a < b; omega⟩
 obtain ⟨⟨a, b, m1, x1, y1, e1⟩, ⟨c, d, m2, x2, y2, e2⟩⟩ := oA e
 rw [e1, e2]
 exact ⟨mk m1 (by rw [x1, y1]; simp), mk m2 (by rw [x2, y2]; simp)⟩
def fK (c : ah) : K2 := A2.mk (gt c.Points 0).A (gt c.Points 0).B
def kC (c : ah) : Int := kap (fK c)
def okC (c : ah) : Prop := 0 < c.Points.length /\ 0 <= (fK c).e0 /\ (fK c).e0 < 40 /\ 0 <= (fK c).e1 /\ (fK c).e1 < 40
theorem wE {a b : K2} (ha : 0 <= a.e0 /\ a.e0 < 40 /\ 0 <= a.e1 /\ a.e1 < 40) (hb : 0 <= b.e0 /\ b.e0 < 40 /\ 0 <= b.e1 /\ b.e1 < 40) : ∃ c, dd 20000 a b = some c /\ (c < 0 ↔ kap a < kap b) := by
 unfold dd kap
 by_cases h : a.e0 = b.e0
 · rw [show (a.e0 != b.e0) = false by simpa using h]
   refine ⟨_, rfl, ?_⟩
   rw [wrap64_in (by omega) (by omega)]; omega
 · rw [show (a.e0 != b.e0) = true by simpa using h]
   refine ⟨_, rfl, ?_⟩
   rw [wrap64_in (by omega) (by omega)]; omega
theorem Ay {c : ah} (h : okC c) : dC 20000 c = some (fK c) := by
 unfold dC
 rw [show inR 0 c.Points.length = true by rw [j5]; have := h.1; omega]; rfl
theorem C1 {a b : ah} (ha : okC a) (hb : okC b) : ∃ c, gU 20000 a b = some c /\ (c < 0 ↔ kC a < kC b) := by
 obtain ⟨c, e, h⟩ := wE (a := fK a) (b := fK b) ha.2 hb.2
 refine ⟨c, ?_, h⟩
 unfold gU
 rw [Ay ha, Ay hb]
 show bdO (dd 20000 (fK a) (fK b)) _ = _
 rw [e]; rfl
theorem xO {α β : Type} {f : α -> β} {p : β -> Int} {q : α -> Int} {x : α} : ∀ {l : List α}, (∀ y ∈ l, p (f y) = q y) -> p (f x) = q x -> lJ (ltK p) (f x) (l.map f) = (lJ (ltK q) x l).map f
 | [], _, _ => rfl
 | y :: l, h, hx => by
  have hy := h y (by simp)
  show (if decide (p (f y) < p (f x)) = true then f y :: lJ (ltK p) (f x) (l.map f) else f x :: f y :: l.map f) = (if decide (q y < q x) = true then y :: lJ (ltK q) x l else x :: y :: l).map f
  rw [hy, hx]
  split
  · rw [List.map_cons, xO (fun z hz => h z (List.mem_cons_of_mem _ hz)) hx]
  · rfl
theorem vV {α β : Type} {f : α -> β} {p : β -> Int} {q : α -> Int} : ∀ {l : List α}, (∀ y ∈ l, p (f y) = q y) -> iS (ltK p) (l.map f) = (iS (ltK q) l).map f
 | [], _ => rfl
 | x :: l, h => by
  show lJ (ltK p) (f x) (iS (ltK p) (l.map f)) = (lJ (ltK q) x (iS (ltK q) l)).map f
  rw [vV fun y hy => h y (List.mem_cons_of_mem _ hy)]
  exact xO (fun y hy => h y (by
   rw [jS] at hy; exact List.mem_cons_of_mem _ hy)) (h x (by simp))
theorem ET {l : List ah} (hl : l.length <= 200) (h : ∀ c ∈ l, okC c) (hd : l.Pairwise fun a b => kC a ≠ kC b) : aF 20000 l = some (iS (ltK kC) l) := by
 unfold aF
 rw [decide_eq_true (show l.length < 4611686018427387904 by omega)]
 refine wI (fun x y hx hy => C1 (h x hx) (h y hy)) fun x y hx hy e => ?_
 apply Classical.byContradiction
 intro hn
 exact zo (R := fun a b => kC a ≠ kC b) (fun a b h k => h k.symm) hd x hx y hy hn e
theorem BE {l : List K2} (hl : l.length <= 200) (h : ∀ e ∈ l, 0 <= e.e0 /\ e.e0 < 40 /\ 0 <= e.e1 /\ e.e1 < 40) : au 20000 l = some (iS (ltK kap) l) := by
 unfold au
 rw [decide_eq_true (show l.length < 4611686018427387904 by omega)]
 refine wI (fun x y hx hy => wE (h x hx) (h y hy)) fun x y hx hy e => ?_
 have a := h x hx; have b := h y hy
 unfold kap at e
 obtain ⟨x0, x1⟩ := x; obtain ⟨y0, y1⟩ := y
 dsimp only at *
 have h0 : x0 = y0 := by omega
 subst h0
 have h1 : x1 = y1 := by omega
 rw [h1]
end Go.L

