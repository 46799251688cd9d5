import Derived.Test.YtecdcgfclgmbpaaGreatLinL51i
import Derived.Test.YtecdcgfclgmbpaaGreatLinLsrt
set_option linter.all false
namespace Go.L
open Go Go.Eng
theorem pC {α : Type} {κ : α -> Int} : ∀ {l m : List α}, l.Pairwise (fun a b => κ a < κ b) -> m.Pairwise (fun a b => κ a < κ b) -> (∀ x, x ∈ l ↔ x ∈ m) -> l = m
 | [], [], _, _, _ => rfl
 | [], y :: m, _, _, h => by have := (h y).2 (by simp); cases this
 | x :: l, [], _, _, h => by have := (h x).1 (by simp); cases this
 | x :: l, y :: m, hl, hm, h => by
  rw [List.pairwise_cons] at hl hm
  have e : x = y := by
   rcases List.mem_cons.1 ((h x).1 (by simp)) with e | e
   · exact e
   · rcases List.mem_cons.1 ((h y).2 (by simp)) with e' | e'
     · exact e'.symm
     · have a := hm.1 x e; have b := hl.1 y e'; omega
  subst e
  congr 1
  refine pC hl.2 hm.2 fun z => ⟨fun hz => ?_, fun hz => ?_⟩
  · rcases List.mem_cons.1 ((h z).1 (List.mem_cons_of_mem _ hz)) with e | e
    · subst e; have := hl.1 z hz; omega
    · exact e
  · rcases List.mem_cons.1 ((h z).2 (List.mem_cons_of_mem _ hz)) with e | e
    · subst e; have := hm.1 z hz; omega
    · exact e
theorem sN {S : List (K2 × K2)} {a b d : Nat} {e : K2} : e ∈ vA S a b d ↔ ∃ c : Nat, b <= c /\ c < b + d /\ e = A2.mk (a : Int) (c : Int) /\ dG S e = true := by
 unfold vA
 rw [List.mem_filter, List.mem_map]
 constructor
 · rintro ⟨⟨c, hc, rfl⟩, h⟩
   rw [List.mem_range'_1] at hc
   exact ⟨c, hc.1, hc.2, rfl, h⟩
 · rintro ⟨c, h1, h2, rfl, h⟩
   exact ⟨⟨c, by rw [List.mem_range'_1]; exact ⟨h1, h2⟩, rfl⟩, h⟩
theorem A4 {S : List (K2 × K2)} {m : Nat} {e : K2} : e ∈ jX S m 0 m ↔ dG S e = true /\ ∃ a c : Nat, a < c /\ c < m /\ e = A2.mk (a : Int) (c : Int) := by
 unfold jX
 rw [List.mem_flatMap]
 constructor
 · rintro ⟨a, ha, h⟩
   rw [List.mem_range'_1] at ha
   obtain ⟨c, h1, h2, h3, h4⟩ := sN.1 h
   exact ⟨h4, a, c, by omega, by omega, h3⟩
 · rintro ⟨h4, a, c, h1, h2, h3⟩
   exact ⟨a, by rw [List.mem_range'_1]; omega, sN.2 ⟨c, by omega, by omega, h3, h4⟩⟩
theorem CL {S : List (K2 × K2)} {m : Nat} (hm : m <= 40) : (jX S m 0 m).Pairwise fun a b => kap a < kap b := by
 unfold jX
 rw [List.pairwise_flatMap]
 constructor
 · intro a _
   unfold vA
   refine List.Pairwise.filter _ ?_
   rw [List.pairwise_map]
   refine (List.pairwise_lt_range' (step := 1)).imp fun {x y} h => ?_
   show (a : Int) * 4096 + (x : Int) < (a : Int) * 4096 + (y : Int)
   omega
 · refine (List.pairwise_lt_range' (s := 0) (n := m)).imp_of_mem fun {a b} ha hb h => ?_
   rw [List.mem_range'_1] at ha hb
   intro x hx y hy
   obtain ⟨c, h1, h2, rfl, -⟩ := sN.1 hx
   obtain ⟨d, k1, k2, rfl, -⟩ := sN.1 hy
   show (a : Int) * 4096 + (c : Int) < (b : Int) * 4096 + (d : Int)
   omega
abbrev Ln := Bool × List K2
def toL (cr : K2 -> ai) (x : Ln) : ae := toC cr x.1 x.2
def kL (x : Ln) : Int := kap (x.2.headD (A2.mk 0 0))
def stK (S : List (K2 × K2)) : List K2 := gv (ltK kap) (S.map (·.1))
def opK (S : List (K2 × K2)) : List K2 := (stK S).filter (opn S)
def dnK (S : List (K2 × K2)) (x : K2) : Bool := (opK S).any fun e => (path S e).contains x
def opL (S : List (K2 × K2)) (e : K2) : Ln := (false, path S e)
def sI (S : List (K2 × K2)) (A : List K2) : List Ln := A.map (opL S) ++ (CLs S (stK S) (dnK S)).map fun l => (true, l)
def ve (S : List (K2 × K2)) : List Ln := gv (ltK kL) (sI S (opK S))
theorem qT {S : List (K2 × K2)} {e : K2} : ∃ t, path S e = e :: t := Cu (by omega) rfl
section
variable {g : al} {level : Int} {S : List (K2 × K2)}
structure SS (g : al) (level : Int) (S : List (K2 × K2)) : Prop where
 z40 : g.Z.length <= 40
 pw : S.Pairwise Rq
 ge : Ge S (Cr g.Z level)
 len : S.length <= 60
theorem DA {w h : Nat} (hg : Gd g w h) (hb : g.Z.any pQ = false) (h40 : g.Z.length <= 40) (level : Int) : SS g level (rP g w h level) := by
 refine ⟨h40, Ai hg level, Dd hg hb, ?_⟩
 have h1 : (rP g w h level).length <= (kI g w h).length := List.length_filterMap_le _ _
 have h2 := Ey hg.w1.1 hg.h1.1 (by rw [<- hg.m]; exact h40)
 have h3 : (kI g w h).length <= 2 * ((w - 1) * (h - 1)) := C5
 omega
theorem xC {e : K2} : e ∈ stK S ↔ dG S e = true := by
 unfold stK
 rw [gz, List.mem_map, lU]
theorem SS.cr (h : SS g level S) {e : K2} (he : e ∈ stK S) : Cr g.Z level e := by
 obtain ⟨q, hq, rfl⟩ := lU.1 (xC.1 he)
 exact (h.ge.k q hq).1
theorem SS.keys (h : SS g level S) : (stK S).Pairwise fun a b => kap a < kap b := by
 unfold stK
 refine qa ?_
 rw [List.pairwise_map]
 refine h.pw.imp_of_mem fun {a b} ha hb hr hk => hr.1 ?_
 exact th h.z40 (h.ge.k a ha).1 (h.ge.k b hb).1 hk
theorem SS.Cm (h : SS g level S) : jX S g.Z.length 0 g.Z.length = stK S := by
 refine pC (κ := kap) (CL h.z40) h.keys fun e => ?_
 rw [A4, xC]
 refine ⟨fun h => h.1, fun he => ⟨he, ?_⟩⟩
 have := (h.cr (xC.2 he)).bd
 obtain ⟨a, b⟩ := e
 dsimp only at this
 exact ⟨a.toNat, b.toNat, by omega, by omega, by congr 1 <;> omega⟩
theorem SS.nd (h : SS g level S) : (stK S).Nodup := h.keys.imp fun {a b} k => by rintro rfl; omega
theorem AR {x : K2} : dnK S x = true ↔ ∃ e ∈ opK S, x ∈ path S e := by
 unfold dnK
 rw [List.any_eq_true]
 simp only [List.contains_iff_mem]
theorem Op.Ev {cr : K2 -> ai} {A : List K2} {c : List (K2 × Bool) × List ae} (hA : ∀ e, e ∈ A ↔ e ∈ opK S) (h : Op S cr A c) : dn c.1 = dnK S := by
 funext x
 have h1 := h.mem x
 have h2 := AR (S := S) (x := x)
 have h3 : dn c.1 x = true ↔ dnK S x = true := by
  rw [h1, h2]
  exact ⟨fun ⟨e, a, b⟩ => ⟨e, (hA e).1 a, b⟩, fun ⟨e, a, b⟩ => ⟨e, (hA e).2 a, b⟩⟩
 cases ha : dn c.1 x <;> cases hb : dnK S x <;> simp [ha, hb] at h3 ⊢
theorem Op.uN {cr : K2 -> ai} {A : List K2} {c : List (K2 × Bool) × List ae} (hA : ∀ e, e ∈ A ↔ e ∈ opK S) (h : Op S cr A c) : c.2 ++ (CLs S (stK S) (dn c.1)).map (toC cr true) = (sI S A).map (toL cr) := by
 unfold sI
 rw [h.Ev hA, h.out, List.map_append, List.map_map, List.map_map]; rfl
theorem SS.wK (h : SS g level S) {A : List K2} (hA : ∀ e, e ∈ A ↔ e ∈ opK S) : ∀ x ∈ sI S A, ∃ e t, x.2 = e :: t /\ Cr g.Z level e := by
 intro x hx
 unfold sI at hx
 rcases List.mem_append.1 hx with hx | hx
 · obtain ⟨e, he, rfl⟩ := List.mem_map.1 hx
   obtain ⟨t, ht⟩ := qT (S := S) (e := e)
   exact ⟨e, t, ht, h.cr (List.mem_filter.1 ((hA e).1 he)).1⟩
 · obtain ⟨l, hl, rfl⟩ := List.mem_map.1 hx
   obtain ⟨e, t, e1, e2, -⟩ := (qR (stK S) (dnK S)).1 l hl
   exact ⟨e, t, e1, h.cr e2⟩
theorem qX {b : Bool} {e : K2} {t : List K2} : kL (b, e :: t) = kap e := rfl
theorem SS.pwL (h : SS g level S) {A : List K2} (hA : ∀ e, e ∈ A ↔ e ∈ opK S) (hn : A.Nodup) : (sI S A).Pairwise fun a b => kL a ≠ kL b := by
 unfold sI
 have crA : ∀ e ∈ A, Cr g.Z level e := fun e he => h.cr (List.mem_filter.1 ((hA e).1 he)).1
 obtain ⟨c1, c2⟩ := qR (S := S) (stK S) (dnK S)
 rw [List.pairwise_append]
 refine ⟨?_, ?_, ?_⟩
 · rw [List.pairwise_map]
   refine List.Pairwise.imp_of_mem (fun {a b} ha hb hne hk => hne ?_) hn
   obtain ⟨t, ht⟩ := qT (S := S) (e := a)
   obtain ⟨u, hu⟩ := qT (S := S) (e := b)
   unfold opL at hk
   rw [ht, hu, qX, qX] at hk
   exact th h.z40 (crA a ha) (crA b hb) hk
 · rw [List.pairwise_map]
   refine List.Pairwise.imp_of_mem (fun {a b} ha hb hne hk => hne ?_) c2
   obtain ⟨e, t, e1, e2, -⟩ := c1 a ha
   obtain ⟨f, u, f1, f2, -⟩ := c1 b hb
   rw [e1, f1, qX, qX] at hk
   rw [e1, f1, th h.z40 (h.cr e2) (h.cr f2) hk]; rfl
 · intro x hx y hy hk
   obtain ⟨e, he, rfl⟩ := List.mem_map.1 hx
   obtain ⟨l, hl, rfl⟩ := List.mem_map.1 hy
   obtain ⟨t, ht⟩ := qT (S := S) (e := e)
   obtain ⟨f, u, f1, f2, f3⟩ := c1 l hl
   unfold opL at hk
   rw [ht, f1, qX, qX] at hk
   have ef := th h.z40 (crA e he) (h.cr f2) hk
   have : dnK S f = true := AR.2 ⟨e, (hA e).1 he, by rw [ht, ef]; simp⟩
   rw [this] at f3; cases f3
theorem xv {cr : K2 -> ai} {x : Ln} {e : K2} {t : List K2} (h : x.2 = e :: t) (hc : (cr e).A = e.e0 /\ (cr e).B = e.e1) : kC (toL cr x) = kL x := by
 unfold kC fK toL toC kL
 rw [h]
 show kap (A2.mk (cr e).A (cr e).B) = kap e
 rw [hc.1, hc.2]
theorem Am (h40 : g.Z.length <= 40) {cr : K2 -> ai} {x : Ln} {e : K2} {t : List K2} (h : x.2 = e :: t) (hc : (cr e).A = e.e0 /\ (cr e).B = e.e1) (he : Cr g.Z level e) : okC (toL cr x) := by
 have := he.bd
 unfold okC fK toL toC
 rw [h]
 show 0 < (t.map cr).length + 1 /\ 0 <= (cr e).A /\ (cr e).A < 40 /\ 0 <= (cr e).B /\ (cr e).B < 40
 rw [hc.1, hc.2]
 omega
theorem vX {A : List K2} (hA : A.length <= 60) (hS : S.length <= 60) : (sI S A).length <= 120 := by
 unfold sI
 rw [List.length_append, List.length_map, List.length_map]
 have h1 := xr (S := S) (stK S) (dnK S)
 have h2 : (stK S).length = S.length := by unfold stK; rw [lD, List.length_map]
 omega
theorem ze (h : SS g level S) : (ve S).Pairwise fun a b => kL a < kL b := qa (h.pwL (fun _ => Iff.rfl) (h.nd.sublist List.filter_sublist))
theorem zB {w h : Nat} (hg : Gd g w h) (hb : g.Z.any pQ = false) (h40 : g.Z.length <= 40) (hl : -2097153 <= level /\ level <= 2097153) :
  fU 20000 g level = some ((ve (rP g w h level)).map (toL (crP g level))) /\ eM 20000 g level = some ((ve (rP g w h level)).map (toL (crR g level))) := by
 have hs := DA hg hb h40 level
 have hpw := Ai hg level
 have hP : ∀ e, Cr g.Z level e -> cC 20000 g level e = some (crP g level e) := fun e he => (uR hl he).1
 have hR : ∀ e, Cr g.Z level e -> bx 20000 g level e = some (crR g level e) := fun e he => (uM hl he).1
 have nx := DO (n := 20000) (level := level) (by omega) hg hb g.X0 g.Y0 g.Step g.Width g.Height
 have fold := vV (rP g w h level) [] (by rw [List.nil_append]; exact hpw)
 rw [List.map_nil, List.nil_append] at fold
 rw [fold] at nx
 generalize eS : rP g w h level = S at *
 have lK : (stK S).length = S.length := by unfold stK; rw [lD, List.length_map]
 have lA : (opK S).length <= 60 := by
  have h1 : (opK S).length <= (stK S).length := List.length_filter_le _ _
  have := hs.len; omega
 have hA' : ∀ e, e ∈ (S.map (·.1)).filter (opn S) ↔ e ∈ opK S := fun e => by
  unfold opK stK; rw [List.mem_filter, List.mem_filter, gz]
 have nd' : ((S.map (·.1)).filter (opn S)).Nodup := by
  refine List.Nodup.sublist List.filter_sublist ?_
  unfold List.Nodup; rw [List.pairwise_map]; exact hpw.imp fun h => h.1
 have hcP : ∀ {e}, Cr g.Z level e -> (crP g level e).A = e.e0 /\ (crP g level e).B = e.e1 := fun he => ⟨(uR hl he).2.1, (uR hl he).2.2.1⟩
 have hcR : ∀ {e}, Cr g.Z level e -> (crR g level e).A = e.e0 /\ (crR g level e).B = e.e1 := fun he => ⟨(uM hl he).2.1, (uM hl he).2.2.1⟩
 constructor
 · refine yX (S := stK S) nx (by have := hs.len; show S.length <= 100000; omega) (fun p hp => ?_) lK ?_
   · have hp : p.Perm (S.map (·.1)) := hp
     have hk : ∀ e ∈ p, Cr g.Z level e := fun e he => by
      obtain ⟨q, hq, rfl⟩ := List.mem_map.1 (hp.mem_iff.1 he)
      exact (hs.ge.k q hq).1
     rw [Bn (by rw [hp.length_eq, List.length_map]; have := hs.len; omega) fun e he => by have := (hk e he).bd; omega]
     congr 1
     refine pC (κ := kap) (qa ?_) hs.keys fun e => ?_
     · have h1 : p.Nodup := hp.nodup_iff.2 (by unfold List.Nodup; rw [List.pairwise_map]; exact hpw.imp fun h => h.1)
       exact List.Pairwise.imp_of_mem (fun {a b} ha hb hne hk2 => hne (th h40 (hk a ha) (hk b hb) hk2)) h1
     · unfold stK
       rw [gz, gz, hp.mem_iff]
   · have key := BR (F := gv (ltK kC)) hpw hs.ge hP hs.len hs.nd (by have := hs.len; omega) (fun e he => hs.cr he) ?_
     · rw [lK] at key
       obtain ⟨r, e, c, hO, hr⟩ := key
       show p8 20000 g level (S, bk S) (S.length : Int) (stK S) = _
       rw [e, hr, hO.uN (fun _ => Iff.rfl)]
       congr 1
       refine tp fun y hy => ?_
       obtain ⟨e, t, h1, h2⟩ := hs.wK (fun _ => Iff.rfl) y hy
       exact xv h1 (hcP h2)
     · intro c hO
       have hO : Op S (crP g level) (opK S) c := hO
       rw [hO.uN (fun _ => Iff.rfl)]
       refine ⟨DP (by rw [List.length_map]; have := vX lA hs.len; omega) (fun y hy => ?_) ?_, lD⟩
       · obtain ⟨x, hx, rfl⟩ := List.mem_map.1 hy
         obtain ⟨e, t, h1, h2⟩ := hs.wK (fun _ => Iff.rfl) x hx
         exact Am h40 h1 (hcP h2) h2
       · rw [List.pairwise_map]
         refine (hs.pwL (fun _ => Iff.rfl) (hs.nd.sublist List.filter_sublist)).imp_of_mem fun {a b} ha hb hne hk => hne ?_
         obtain ⟨e, t, h1, h2⟩ := hs.wK (fun _ => Iff.rfl) a ha
         obtain ⟨f, u, h3, h4⟩ := hs.wK (fun _ => Iff.rfl) b hb
         rw [xv h1 (hcP h2), xv h3 (hcP h4)] at hk
         exact hk
 · have lA' : ((S.map (·.1)).filter (opn S)).length <= 60 := by
    have h1 := List.length_filter_le (opn S) (S.map (·.1))
    rw [List.length_map] at h1
    have := hs.len; omega
   have key := CK (F := fun out => (gv gK out.reverse).reverse) hg hb h40 eS hpw hs.ge hR hs.len ?_
   · obtain ⟨r, e, c, hO, hr⟩ := key
     rw [hs.Cm, hO.uN hA'] at hr
     rw [e, hr]
     congr 1
     have hh := hs.wK hA'
     have e1 : gv gK ((sI S ((S.map (·.1)).filter (opn S))).map (toL (crR g level))).reverse = (gv (ltK fun x => -kL x) (sI S ((S.map (·.1)).filter (opn S))).reverse).map (toL (crR g level)) := by
      rw [<- List.map_reverse]
      refine tp (p := fun c => -kC c) (q := fun x => -kL x) fun y hy => ?_
      obtain ⟨e, t, h1, h2⟩ := hh y (List.mem_reverse.1 hy)
      show -kC (toL (crR g level) y) = -kL y
      rw [xv h1 (hcR h2)]
     rw [e1, <- List.map_reverse]
     congr 1
     have pwl := hs.pwL hA' nd'
     refine pC (κ := kL) ?_ (ze hs) fun x => ?_
     · rw [List.pairwise_reverse]
       have := qa (κ := fun x => -kL x) (l := (sI S ((S.map (·.1)).filter (opn S))).reverse) (by
        rw [List.pairwise_reverse]
        exact pwl.imp fun h k => h (by omega))
       exact this.imp fun h => by omega
     · unfold ve
       rw [List.mem_reverse, gz, List.mem_reverse, gz]
       unfold sI
       simp only [List.mem_append, List.mem_map, hA']
   · intro c hO out hout
     rw [hs.Cm, hO.uN hA'] at hout
     have hh := hs.wK hA'
     refine Eh (by rw [hout, List.length_map]; have := vX lA' hs.len; omega) fun y hy => ?_
     rw [hout] at hy
     obtain ⟨x, hx, rfl⟩ := List.mem_map.1 hy
     obtain ⟨e, t, h1, h2⟩ := hh x hx
     exact Am h40 h1 (hcR h2) h2
end
end Go.L


set_option linter.all false
namespace Go.L
open Go Go.Eng
theorem vJ {S : List (K2 × K2)} {P : K2 -> Prop} (h : Ge S P) : ∀ (L : List K2) (D : K2 -> Bool), (∀ e ∈ L, P e) -> ∀ l ∈ CLs S L D, ∀ x ∈ l, P x
 | [], _, _, l, hl => by cases hl
 | e :: L, D, hL, l, hl => by
  unfold CLs at hl
  split at hl
  · exact vJ h L _ (fun e he => hL e (List.mem_cons_of_mem _ he)) l hl
  · rcases List.mem_cons.1 hl with rfl | hl
    · exact fun x hx => zT h 100 D e (hL e (by simp)) x hx
    · exact vJ h L _ (fun e he => hL e (List.mem_cons_of_mem _ he)) l hl
theorem rN {S : List (K2 × K2)} : ∀ (L : List K2) (D : K2 -> Bool), ∀ l ∈ CLs S L D, l.length <= 100
 | [], _, l, hl => by cases hl
 | e :: L, D, l, hl => by
  unfold CLs at hl
  split at hl
  · exact rN L _ l hl
  · rcases List.mem_cons.1 hl with rfl | hl
    · exact BE 100 D e
    · exact rN L _ l hl
section
variable {g : al} {level : Int} {S : List (K2 × K2)}
theorem BO {x : Ln} : x ∈ ve S ↔ (∃ e ∈ opK S, x = (false, path S e)) \/ ∃ l ∈ CLs S (stK S) (dnK S), x = (true, l) := by
 unfold ve sI opL
 rw [gz, List.mem_append, List.mem_map, List.mem_map]
 constructor
 · rintro (⟨e, h, rfl⟩ | ⟨e, h, rfl⟩)
   · exact .inl ⟨e, h, rfl⟩
   · exact .inr ⟨e, h, rfl⟩
 · rintro (⟨e, h, rfl⟩ | ⟨e, h, rfl⟩)
   · exact .inl ⟨e, h, rfl⟩
   · exact .inr ⟨e, h, rfl⟩
theorem SS.pts (h : SS g level S) {x : Ln} (hx : x ∈ ve S) : (∀ e ∈ x.2, Cr g.Z level e) /\ x.2.length <= 100 := by
 rcases BO.1 hx with ⟨e, he, rfl⟩ | ⟨l, hl, rfl⟩
 · exact ⟨fun y hy => zT h.ge 100 (fun _ => false) e (h.cr (List.mem_filter.1 he).1) y hy, BE 100 (fun _ => false) e⟩
 · exact ⟨vJ h.ge _ _ (fun e he => h.cr he) l hl, rN _ _ l hl⟩
theorem Cv (h : SS g level S) : (ve S).length <= 120 := by
 unfold ve
 rw [lD]
 refine vX ?_ h.len
 have h1 : (opK S).length <= (stK S).length := List.length_filter_le _ _
 have h2 : (stK S).length = S.length := by unfold stK; rw [lD, List.length_map]
 have := h.len; omega
theorem xD {α β : Type} [Inhabited α] [Inhabited β] {f : α -> β} {l : List α} {k : Nat} (h : k < l.length) : gt (l.map f) (k : Int) = f l[k] := by
 rw [vO (by rw [List.length_map]; exact h), List.getElem_map]
theorem DW (hl : -2097153 <= level /\ level <= 2097153) {x : Ln} (hx : ∀ e ∈ x.2, Cr g.Z level e) (hlen : x.2.length <= 100) : gi 20000 (toL (crP g level) x) (toL (crR g level) x) = some true := by
 apply Ok.eq
 unfold gi
 obtain ⟨b, l⟩ := x
 dsimp only at hx hlen
 unfold toL toC
 dsimp only
 rw [List.length_map, List.length_map]
 refine Ok.cd (fun h => by simp at h) (fun _ => Ok.cd (fun h => by simp at h) (fun _ => ?_))
 refine Ok.bd (R := fun o => o = Sum.inl ()) ?_ (by rintro o rfl; exact aw.2 rfl)
 refine fr (γ := Unit) (len := l.length) (fun _ x => x) (fun _ _ => True) (by omega) (by omega) (c0 := ()) trivial ?_ ?_
 · rintro again k c hk - ih
   have hc := hx _ (List.getElem_mem hk)
   obtain ⟨-, p1, p2, p3⟩ := uR hl hc
   obtain ⟨-, r1, r2, r3⟩ := uM hl hc
   refine Ok.cd (fun _ => ?_) (fun h => by have := dcF h; omega)
   refine Ok.gd (by rw [bg]; exact decide_eq_true hk) (Ok.gd (by rw [bg]; exact decide_eq_true hk) ?_)
   rw [xD hk, xD hk, p1, p2, r1, r2]
   refine Ok.cd (fun h => by simp at h) (fun _ => Ok.cd (fun h => by simp at h) (fun _ => ?_))
   refine Ok.bde (R.BJ (by omega) (by omega) p3 r3) (Ok.cd (fun h => by cases h) (fun _ => ih () trivial))
 · rintro again c -
   exact Ok.cd (fun h => by have := dcT h; omega) (fun _ => aw.2 rfl)
theorem Bv (g : al) (level : Int) : c8 20000 g level = some true := by
 apply Ok.eq
 unfold c8
 refine Ok.bde Bw (Ok.cd (fun h => by cases h) (fun _ => ?_))
 refine Ok.bde (b := decide ((g.Z.length : Int) <= 40)) rfl (Ok.cd (fun _ => aw.2 rfl) (fun h4 => ?_))
 have h40 : g.Z.length <= 40 := by
  have : (g.Z.length : Int) <= 40 := by simpa using h4
  omega
 by_cases h0 : wu (mb g) level = 0
 · obtain ⟨hg0, hl⟩ := BX h0
   obtain ⟨w, h, hg⟩ := E8 hg0
   obtain ⟨-, -, hb⟩ := Ac hg0
   have hl : -2097153 <= level /\ level <= 2097153 := ⟨hl.2.1, hl.2.2⟩
   obtain ⟨e1, e2⟩ := zB hg hb h40 hl
   have hs := DA hg hb h40 level
   generalize rP g w h level = S at *
   have e3 : ew 20000 g level = some ((ve S).map (toL (crP g level)), 0) := by unfold ew; rw [BN, h0, e1]; rfl
   refine Ok.bde e3 (Ok.bde (w8 g level) ?_)
   rw [h0]
   refine Ok.cd (fun h => by cases h) (fun _ => Ok.cd (fun _ => Ok.bde e2 ?_) (fun h => by cases h))
   refine Ok.bd (R := fun o => o = true) ?_ (by rintro o rfl; exact aw.2 rfl)
   unfold aM
   have hlen := Cv hs
   have hpt := fun x hx => hs.pts (x := x) hx
   generalize ve S = L at *
   rw [List.length_map, List.length_map]
   refine Ok.cd (fun h => by simp at h) (fun _ => ?_)
   refine Ok.bd (R := fun o => o = Sum.inl ()) ?_ (by rintro o rfl; exact aw.2 rfl)
   refine fr (γ := Unit) (len := L.length) (fun _ x => x) (fun _ _ => True) (by omega) (by omega) (c0 := ()) trivial ?_ ?_
   · rintro again k c hk - ih
     obtain ⟨q1, q2⟩ := hpt _ (List.getElem_mem hk)
     refine Ok.cd (fun _ => ?_) (fun h => by have := dcF h; omega)
     refine Ok.gd (by rw [bg]; exact decide_eq_true hk) (Ok.gd (by rw [bg]; exact decide_eq_true hk) ?_)
     rw [xD hk, xD hk]
     exact Ok.bde (DW hl q1 q2) (Ok.cd (fun h => by cases h) (fun _ => ih () trivial))
   · rintro again c -
     exact Ok.cd (fun h => by have := dcT h; omega) (fun _ => aw.2 rfl)
 · have nz : (wu (mb g) level != 0) = true := by simpa using h0
   have e1 : ew 20000 g level = some ([], wu (mb g) level) := by
    unfold ew; rw [BN]; show cdO (wu (mb g) level != 0) _ _ = _; rw [nz]; rfl
   refine Ok.bde e1 (Ok.bde (w8 g level) ?_)
   exact Ok.cd (fun _ => Ok.cd (fun _ => aw.2 rfl) (fun h => by simp at h)) (fun h => absurd (by simpa using h) h0)
end
end Go.L

