import Derived.Test.YtlpfiiejhikalaaGreatTrkL26h
import Derived.Test.YtlpfiiejhikalaaGreatTrkL26C
set_option linter.all false
namespace Go.L
open Go Go.Eng
def tz (t : Mks) : aa := t.getD 0 default
structure Canon (R : lZ) (V : aa -> Prop) (ts : List Mks) : Prop where
 two : ∀ t ∈ ts, 2 <= t.length
 srt : ∀ t ∈ ts, t.Pairwise (fun a b => kM a < kM b)
 val : ∀ t ∈ ts, ∀ m ∈ t, V m
 rel : ∀ t ∈ ts, ∀ m ∈ t, ∀ m' ∈ t, R m m'
 all : ∀ m m', V m -> V m' -> m ≠ m' -> R m m' -> ∃ t ∈ ts, m ∈ t /\ m' ∈ t
 ord : ts.Pairwise (fun a b => kM (tz a) < kM (tz b) /\ ∀ x ∈ a, ∀ y ∈ b, ¬ R x y)
theorem CJ {γ : Type} {P : γ -> γ -> Prop} {l : List γ} (h : l.Pairwise P) {a b : γ} (ha : a ∈ l) (hb : b ∈ l) : a = b \/ P a b \/ P b a := by
 obtain ⟨i, hi, rfl⟩ := List.getElem_of_mem ha
 obtain ⟨j, hj, rfl⟩ := List.getElem_of_mem hb
 rw [List.pairwise_iff_getElem] at h
 rcases Nat.lt_trichotomy i j with e | e | e
 · exact .inr (.inl (h i j hi hj e))
 · subst e; exact .inl rfl
 · exact .inr (.inr (h j i hj hi e))
theorem Canon.one {R : lZ} {V : aa -> Prop} {ts : List Mks} (h : Canon R V ts) (hs : ∀ {x y}, R x y -> R y x) {a b : Mks} (ha : a ∈ ts) (hb : b ∈ ts) {m : aa} (h1 : m ∈ a) (h2 : m ∈ b) : a = b := by
 have hr := h.rel a ha m h1 m h1
 rcases CJ h.ord ha hb with e | e | e
 · exact e
 · exact (e.2 m h1 m h2 hr).elim
 · exact (e.2 m h2 m h1 hr).elim
theorem zd {t : Mks} (h : 2 <= t.length) (hs : t.Pairwise (fun a b => kM a < kM b)) : ∃ m m', m ∈ t /\ m' ∈ t /\ m ≠ m' := by
 match t, h, hs with
 | a :: b :: t, _, hs =>
  refine ⟨a, b, by simp, by simp, fun e => ?_⟩
  have := (List.pairwise_cons.1 hs).1 b (by simp)
  rw [e] at this; omega
theorem BX {t : Mks} {m : aa} (h : t ≠ []) : tz (t ++ [m]) = tz t := by
 cases t with
 | nil => exact (h rfl).elim
 | cons a t => rfl
theorem BE {t : Mks} (h : t ≠ []) : tz t ∈ t := by
 cases t with
 | nil => exact (h rfl).elim
 | cons a t => exact List.mem_cons_self ..
theorem wc {γ : Type} [Inhabited γ] {l : List γ} {x : γ} {k : Nat} : gt (l ++ [x]) (k : Int) = if k < l.length then gt l (k : Int) else if k = l.length then x else default := by
 rw [cO, cO, gW]
theorem qy {γ : Type} [Inhabited γ] {l : List γ} {j k : Nat} {x : γ} (h : k < l.length) : gt (l.set k x) (j : Int) = if j = k then x else gt l (j : Int) := by
 rw [cO, cO]
 by_cases e : j = k
 · subst e; rw [if_pos rfl]; simp [List.getD, h]
 · rw [if_neg e]; simp [List.getD, List.getElem?_set_ne (fun h => e h.symm)]
theorem yL {n : Nat} {s : Mks} (hl : s.length <= 1024) : bh n s = some s := by
 unfold bh
 rw [decide_eq_true (show (0 + s.length) * 16 <= 140737488355328 by omega), decide_eq_true (show 0 + s.length <= 4611686018427387904 by omega)]; rfl
theorem xB {n : Nat} {s : Mks} (hl : s.length <= 1024) : bb n s = some s := by
 unfold bb
 rw [decide_eq_true (show (0 + s.length) * 16 <= 140737488355328 by omega), decide_eq_true (show 0 + s.length <= 4611686018427387904 by omega)]; rfl
theorem yP {n : Nat} (hn : 1024 < n) {l : List Mks} (h1 : l.length <= 1024) (h2 : ∀ t ∈ l, t.length <= 1024) (a : Int) : jg n l a = some (qU l a l.length) := by
 apply Ok.eq
 unfold jg
 refine Ok.bd (R := fun o => o = qU l a l.length) ?_ (fun o ho => aw.2 ho)
 refine xG (len := l.length) (fun k o => o = qU l a k) (by omega) (by omega) rfl ?_ ?_
 · rintro again k o hk rfl ih
   have hm := h2 _ (AI hk)
   have hl := ym (l := l) (a := a) (k := k)
   rw [x5 hk] at ih
   generalize qU l a k = o at *
   refine Ok.cd (fun _ => ?_) (fun h => by have := dcF h; omega)
   refine Ok.gd (by rw [aJ]; exact decide_eq_true hk) ?_
   generalize gt l (k : Int) = t at *
   refine Ok.cd (fun h => ?_) (fun h => ?_)
   · rw [if_pos h] at ih
     exact Ok.bde (yL (by omega)) (Ok.gd (decide_eq_true (by omega)) (Ok.gd (decide_eq_true (by omega)) (ih _ rfl)))
   · rw [if_neg (by rw [h]; simp), List.append_nil] at ih
     exact ih _ rfl
 · rintro again o rfl
   exact Ok.cd (fun h => by have := dcT h; omega) (fun _ => aw.2 rfl)
theorem xL {n : Nat} {c0 : Tis} {num : List (aa × Int)} {M : Mks} {p img : List Int} {r τ : Nat -> Nat} {T k : Nat} (hn : T < n) (hM : M.Nodup) (hnum : num = oQ M) (h : UF p r τ T M.length) (hk : k < M.length) :
  Ok (cx n c0 num M p img (M.getD k default)) (fun o => UF o.1 r τ T M.length /\ o.2 = (r k : Int)) := by
 unfold cx
 rw [hnum, tW hM hk]
 refine Ok.bd (sL h hk hn) ?_
 rintro ⟨a, b⟩ ho
 exact aw.2 ho
theorem Aa {n : Nat} (hn : 5 < n) {l : Mks} (hl : l.length <= 1024) (hv : ∀ m ∈ l, okM m) : aN n l = some (fG (ltK kM) l) := by
 unfold aN
 rw [decide_eq_true (show l.length < 4611686018427387904 by omega)]
 exact sP (κ := kM) (fun x y hx hy => ⟨cM x y, vM hn x y, (vR (hv x hx) (hv y hy)).1⟩) (fun x y hx hy h => tG (hv x hx) (hv y hy) h)
theorem um {l : List Mks} {a : Int} : qU l a l.length = l.filter fun t => decide ((t.length : Int) >= a) := by unfold qU; rw [List.take_length]
theorem qB : ∀ {a b : List Nat}, a.Nodup -> (∀ x ∈ a, x ∈ b) -> a.length <= b.length
 | [], _, _, _ => Nat.zero_le _
 | x :: a, b, h, hs => by
  obtain ⟨h1, h2⟩ := List.nodup_cons.1 h
  have hx := hs x (by simp)
  have := qB (b := b.erase x) h2 fun y hy => by
   have hne : y ≠ x := by rintro rfl; exact h1 hy
   exact (List.mem_erase_of_ne hne).2 (hs y (by simp [hy]))
  rw [List.length_erase_of_mem hx] at this
  have := List.length_pos_of_mem hx
  simp only [List.length_cons]; omega
structure Gr (sm : Mks) (lab : aa -> Nat) (rs : List Nat) (at' : List (Int × Int)) (al : List Mks) (j : Nat) : Prop where
 nd : rs.Nodup
 len : al.length = rs.length
 has : ∀ x : Nat, cW at' (x : Int) = true ↔ x ∈ rs
 pos : ∀ i, i < rs.length -> getM 0 at' ((rs.getD i 0 : Nat) : Int) = (i : Int)
 row : ∀ i, i < rs.length -> gt al (i : Int) = (sm.take j).filter (fun m => decide (lab m = rs.getD i 0))
 met : ∀ m ∈ sm.take j, lab m ∈ rs
 some' : ∀ i, i < rs.length -> gt al (i : Int) ≠ []
 ord : ∀ i i', i < i' -> i' < rs.length -> kM (tz (gt al (i : Int))) < kM (tz (gt al (i' : Int)))
theorem sC {l : List Nat} {x : Nat} {k : Nat} : (l ++ [x]).getD k 0 = if k < l.length then l.getD k 0 else if k = l.length then x else 0 := gW (γ := Nat)
theorem sr {l : List Nat} {x : Nat} : x ∈ l ↔ ∃ i, i < l.length /\ l.getD i 0 = x := by
 constructor
 · intro h
   obtain ⟨k, hk, e⟩ := List.getElem_of_mem h
   exact ⟨k, hk, by simp [List.getD, geT hk, e]⟩
 · rintro ⟨k, hk, rfl⟩
   simp only [List.getD, geT hk, Option.getD_some]; exact List.getElem_mem hk
theorem yT {n : Nat} (hn : 1024 < n) {c0 : Tis} {E : lZ} {num : List (aa × Int)} {M : Mks} {p img : List Int} {T : Nat} (h : qa E num M p img T) (hT : T < n) (hM : M.length <= 1000) :
  Ok (cu n c0 num M p img) (fun o => Canon E (· ∈ M) o.2) := by
 unfold cu
 obtain ⟨h1, h2, h3, h4, h5, h6, r, τ, hU, hR, hB⟩ := h
 refine Ok.bde (xB (by omega)) (Ok.bde (Aa (by omega) (by omega) h3) ?_)
 have hsl : (fG (ltK kM) M).length = M.length := iV
 refine Ok.gd (decide_eq_true hsl) ?_
 have hms : ∀ m, m ∈ fG (ltK kM) M ↔ m ∈ M := fun m => lx
 have hps : (fG (ltK kM) M).Pairwise (fun a b => kM a < kM b) := uC (by
  have : M.Pairwise (fun a b => a ≠ b) := h2
  exact this.imp_of_mem fun ha hb hne e => hne (tG (h3 _ ha) (h3 _ hb) e))
 generalize fG (ltK kM) M = sm at *
 have hidx : ∀ m : aa, ∃ k : Nat, m ∈ M -> k < M.length /\ M.getD k default = m := fun m => by
  by_cases hm : m ∈ M
  · obtain ⟨k, hk⟩ := uV.1 hm; exact ⟨k, fun _ => hk⟩
  · exact ⟨0, fun h => (hm h).elim⟩
 obtain ⟨ix, hix⟩ := Classical.axiomOfChoice hidx
 obtain ⟨lab, hlab⟩ : ∃ lab : aa -> Nat, lab = fun m => r (ix m) := ⟨_, rfl⟩
 have hE : ∀ m m', m ∈ M -> m' ∈ M -> (lab m = lab m' ↔ E m m') := fun m m' hm hm' => by
  obtain ⟨a1, a2⟩ := hix m hm
  obtain ⟨b1, b2⟩ := hix m' hm'
  rw [hlab]
  have := hR (ix m) (ix m') a1 b1
  rw [a2, b2] at this; exact this
 refine Ok.bd (R := fun o => ∃ rs at', Gr sm lab rs at' o.2 sm.length) ?_ ?_
 · rw [<- hsl]
   refine pj (γ := List Int × List (Int × Int) × List Mks) (len := sm.length) (fun c x => (c.1, c.2.1, c.2.2, x)) (fun j c => UF c.1 r τ T M.length /\ ∃ rs, Gr sm lab rs c.2.1 c.2.2 j) (by omega) (by omega) (c0 := (p, [], [])) ⟨hU, [], ⟨List.nodup_nil, rfl, fun x => (by simp [cW]), fun i hi => (by cases hi), fun i hi => (by cases hi), fun m hm => (by simp at hm), fun i hi => (by cases hi), fun i i' _ hi => (by cases hi)⟩⟩ ?_ ?_
   · rintro again j ⟨c, at', al⟩ hj ⟨hUc, rs, hG⟩ ih
     dsimp only at hUc hG ⊢
     refine Ok.cd (fun _ => ?_) (fun h => by have := dcF h; omega)
     refine Ok.gd (by rw [aJ]; exact decide_eq_true hj) ?_
     have em : gt sm (j : Int) = sm[j] := by rw [cO]; simp [List.getD, geT hj]
     have hmm : gt sm (j : Int) ∈ M := by rw [<- hms, em]; exact List.getElem_mem hj
     have htk : sm.take (j + 1) = sm.take j ++ [gt sm (j : Int)] := by rw [List.take_add_one, geT hj, em]; rfl
     have hbig : ∀ x ∈ sm.take j, kM x < kM (gt sm (j : Int)) := fun x hx => by
      obtain ⟨i, hi, rfl⟩ := List.getElem_of_mem hx
      rw [List.length_take] at hi
      rw [List.getElem_take, em]
      exact List.pairwise_iff_getElem.1 hps i j (by omega) hj (by omega)
     generalize gt sm (j : Int) = m at *
     obtain ⟨i1, i2⟩ := hix m hmm
     have f1 := xL (n := n) (c0 := c0) (img := img) hT h2 h1 hUc i1
     rw [i2] at f1
     refine Ok.bd f1 ?_
     rintro ⟨c1, v⟩ ⟨hU1, e1⟩
     dsimp only at hU1 e1 ⊢
     have hl : r (ix m) = lab m := by rw [hlab]
     rw [hl] at e1
     subst e1
     have hal : al.length <= M.length := by
      rw [hG.len]
      have hsub : ∀ x ∈ rs, x ∈ List.range M.length := fun x hx => by
       obtain ⟨i, hi, rfl⟩ := sr.1 hx
       have hne := hG.some' i hi
       rw [hG.row i hi] at hne
       obtain ⟨y, hy⟩ := List.exists_mem_of_ne_nil _ hne
       rw [List.mem_filter] at hy
       have hyM : y ∈ M := (hms y).1 (List.mem_of_mem_take hy.1)
       have := dcT hy.2
       rw [<- this, hlab]
       exact List.mem_range.2 (hU.root _ (hix y hyM).1).1
      have := qB hG.nd hsub
      simpa using this
     have hrl : ∀ i, i < rs.length -> (gt al (i : Int)).length <= sm.length := fun i hi => by
      rw [hG.row i hi]
      refine Nat.le_trans (List.length_filter_le _ _) ?_
      rw [List.length_take]; omega
     have hln := hG.len
     have hrow : ∀ i, i < rs.length -> (sm.take (j + 1)).filter (fun x => decide (lab x = rs.getD i 0)) = gt al (i : Int) ++ (if lab m = rs.getD i 0 then [m] else []) := fun i hi => by
      rw [htk, List.filter_append, hG.row i hi]
      congr 1
      by_cases e : lab m = rs.getD i 0
      · rw [if_pos e, List.filter_cons, if_pos (decide_eq_true e)]; rfl
      · rw [if_neg e, List.filter_cons, if_neg (by simpa using e)]; rfl
     refine Ok.cd (fun hno => ?_) (fun hyes => ?_)
     · have hx : lab m ∉ rs := fun hx => by rw [(hG.has _).2 hx] at hno; cases hno
       have hnh : cW at' ((lab m : Nat) : Int) = false := by
        cases hh : cW at' ((lab m : Nat) : Int) with
        | false => rfl
        | true => exact (hx ((hG.has _).1 hh)).elim
       have e0 : gt (al ++ [([] : Mks)]) (al.length : Int) = [] := by rw [wc, if_neg (by omega), if_pos rfl]
       refine Ok.gd (decide_eq_true (by omega)) (Ok.gd (decide_eq_true (by omega)) (Ok.gd (by rw [aJ]; exact decide_eq_true (by simp)) ?_))
       rw [e0]
       refine Ok.gd (by decide) (Ok.gd (by decide) ?_)
       have e1 : (al ++ [([] : Mks)]).set ((al.length : Int)).toNat (([] : Mks) ++ [m]) = al ++ [[m]] := by
        rw [Int.toNat_natCast, List.set_append_right _ _ (Nat.le_refl _), Nat.sub_self]; rfl
       rw [e1]
       have hemp : (sm.take j).filter (fun x => decide (lab x = lab m)) = [] := by
        rw [List.filter_eq_nil_iff]
        intro x hxs e
        exact hx (by have := hG.met x hxs; rwa [dcT e] at this)
       have gl : ∀ i, i < rs.length -> (rs ++ [lab m]).getD i 0 = rs.getD i 0 := fun i hi => by rw [sC, if_pos hi]
       have gx : (rs ++ [lab m]).getD rs.length 0 = lab m := by rw [sC, if_neg (by omega), if_pos rfl]
       have ga : ∀ i, i < rs.length -> gt (al ++ [[m]]) (i : Int) = gt al (i : Int) := fun i hi => by rw [wc, if_pos (by omega)]
       have gb : gt (al ++ [[m]]) (rs.length : Int) = [m] := by rw [<- hln, wc, if_neg (by omega), if_pos rfl]
       refine ih (_, _, _) ⟨hU1, rs ++ [lab m], ⟨?_, by simp [hln], fun x => ?_, fun i hi => ?_, fun i hi => ?_, fun x hxs => ?_, fun i hi => ?_, fun i i' hii hi' => ?_⟩⟩
       · rw [List.nodup_append]
         exact ⟨hG.nd, by simp, fun a ha b hb => by simp at hb; subst hb; exact fun e => hx (e ▸ ha)⟩
       · dsimp only
         rw [mb hnh, iK, List.mem_append, List.mem_singleton, <- hG.has x, iK]
         constructor
         · rintro ⟨q, hq, e⟩
           rcases List.mem_append.1 hq with hq | hq
           · exact .inl ⟨q, hq, e⟩
           · simp at hq; subst hq
             have e : ((lab m : Nat) : Int) = x := e
             exact .inr (by omega)
         · rintro (⟨q, hq, e⟩ | rfl)
           · exact ⟨q, by simp [hq], e⟩
           · exact ⟨_, List.mem_append_right _ (List.mem_singleton_self _), rfl⟩
       · dsimp only
         rw [qS]
         by_cases e : i = rs.length
         · subst e
           rw [gx, if_pos rfl, hln]
         · have hi2 : i < rs.length := by simp at hi; omega
           rw [gl i hi2, if_neg]
           · exact hG.pos i hi2
           · intro e
             exact hx (sr.2 ⟨i, hi2, by omega⟩)
       · dsimp only
         by_cases e : i = rs.length
         · subst e
           rw [gx, gb, htk, List.filter_append, hemp, List.filter_cons, if_pos (decide_eq_true rfl)]; rfl
         · have hi2 : i < rs.length := by simp at hi; omega
           rw [gl i hi2, ga i hi2, hrow i hi2, if_neg, List.append_nil]
           exact fun e => hx (sr.2 ⟨i, hi2, e.symm⟩)
       · rw [htk] at hxs
         rcases List.mem_append.1 hxs with hxs | hxs
         · exact List.mem_append_left _ (hG.met x hxs)
         · simp at hxs; subst hxs; simp
       · dsimp only
         by_cases e : i = rs.length
         · subst e; rw [gb]; simp
         · have hi2 : i < rs.length := by simp at hi; omega
           rw [ga i hi2]; exact hG.some' i hi2
       · dsimp only
         have hi1 : i < rs.length := by simp at hi'; omega
         rw [ga i hi1]
         by_cases e : i' = rs.length
         · subst e
           rw [gb]
           have hne := hG.some' i hi1
           have := BE hne
           rw [hG.row i hi1, List.mem_filter] at this
           have := hbig _ this.1
           rw [<- hG.row i hi1] at this
           exact this
         · have hi2 : i' < rs.length := by simp at hi'; omega
           rw [ga i' hi2]; exact hG.ord i i' hii hi2
     · have hx : lab m ∈ rs := (hG.has _).1 (by simpa using hyes)
       obtain ⟨i0, hi0, e0⟩ := sr.1 hx
       have hp0 := hG.pos i0 hi0
       rw [e0] at hp0
       rw [hp0]
       have hr0 := hrl i0 hi0
       have hi0a : i0 < al.length := by omega
       refine Ok.gd (by rw [aJ]; exact decide_eq_true hi0a) (Ok.gd (decide_eq_true (by omega)) (Ok.gd (decide_eq_true (by omega)) ?_))
       rw [Int.toNat_natCast]
       have inj : ∀ i, i < rs.length -> (lab m = rs.getD i 0 ↔ i = i0) := fun i hi => by
        constructor
        · intro e
          rw [<- e0] at e
          simp only [List.getD, geT hi, geT hi0, Option.getD_some] at e
          exact ((List.getElem_inj hG.nd).1 e).symm
        · rintro rfl; exact e0.symm
       have hhd : ∀ i, i < rs.length -> tz (gt (al.set i0 (gt al (i0 : Int) ++ [m])) (i : Int)) = tz (gt al (i : Int)) := fun i hi => by
        rw [qy hi0a]
        by_cases e : i = i0
        · subst e; rw [if_pos rfl, BX (hG.some' i hi)]
        · rw [if_neg e]
       refine ih (_, _, _) ⟨hU1, rs, ⟨hG.nd, by rw [List.length_set]; exact hln, hG.has, hG.pos, fun i hi => ?_, fun x hxs => ?_, fun i hi => ?_, fun i i' hii hi' => ?_⟩⟩
       · dsimp only
         rw [qy hi0a, hrow i hi]
         by_cases e : i = i0
         · subst e; rw [if_pos rfl, if_pos ((inj i hi).2 rfl)]
         · rw [if_neg e, if_neg (fun h => e ((inj i hi).1 h)), List.append_nil]
       · rw [htk] at hxs
         rcases List.mem_append.1 hxs with hxs | hxs
         · exact hG.met x hxs
         · simp at hxs; subst hxs; exact hx
       · dsimp only
         rw [qy hi0a]
         by_cases e : i = i0
         · rw [if_pos e]; simp
         · rw [if_neg e]; exact hG.some' i hi
       · dsimp only
         rw [hhd i (by omega), hhd i' hi']; exact hG.ord i i' hii hi'
   · rintro again ⟨c, at', al⟩ ⟨hUc, rs, hG⟩
     exact Ok.cd (fun h => by have := dcT h; omega) (fun _ => aw.2 ⟨rs, at', hG⟩)
 · rintro ⟨c, al⟩ ⟨rs, at', hG⟩
   dsimp only at hG ⊢
   have hrow : ∀ i, i < rs.length -> gt al (i : Int) = sm.filter (fun m => decide (lab m = rs.getD i 0)) := fun i hi => by rw [hG.row i hi, List.take_length]
   have hat : ∀ t, t ∈ al ↔ ∃ i, i < rs.length /\ t = gt al (i : Int) := fun t => by
    rw [<- hG.len]
    constructor
    · intro h
      obtain ⟨i, hi, rfl⟩ := List.getElem_of_mem h
      exact ⟨i, hi, by rw [cO]; simp [List.getD, geT hi]⟩
    · rintro ⟨i, hi, rfl⟩; exact AI hi
   have hal : al.length <= M.length := by
    rw [hG.len]
    have hsub : ∀ x ∈ rs, x ∈ List.range M.length := fun x hx => by
     obtain ⟨i, hi, rfl⟩ := sr.1 hx
     have hne := hG.some' i hi
     rw [hrow i hi] at hne
     obtain ⟨y, hy⟩ := List.exists_mem_of_ne_nil _ hne
     rw [List.mem_filter] at hy
     have hyM : y ∈ M := (hms y).1 hy.1
     have := dcT hy.2
     rw [<- this, hlab]
     exact List.mem_range.2 (hU.root _ (hix y hyM).1).1
    have := qB hG.nd hsub
    simpa using this
   refine Ok.bde (yP hn (by omega) (fun t ht => ?_) 2) (aw.2 ?_)
   · obtain ⟨i, hi, rfl⟩ := (hat t).1 ht
     rw [hrow i hi]
     have := List.length_filter_le (fun m => decide (lab m = rs.getD i 0)) sm
     omega
   · rw [um]
     have hmem : ∀ t, t ∈ (al.filter fun t => decide ((t.length : Int) >= 2)) ↔ 2 <= t.length /\ ∃ i, i < rs.length /\ t = gt al (i : Int) := fun t => by
      rw [List.mem_filter, hat]
      constructor
      · rintro ⟨a, b⟩; exact ⟨by have := dcT b; omega, a⟩
      · rintro ⟨a, b⟩; exact ⟨b, decide_eq_true (by omega)⟩
     have hin : ∀ i m, i < rs.length -> (m ∈ gt al (i : Int) ↔ m ∈ M /\ lab m = rs.getD i 0) := fun i m hi => by
      rw [hrow i hi, List.mem_filter, hms, decide_eq_true_iff]
     refine ⟨fun t ht => ((hmem t).1 ht).1, fun t ht => ?_, fun t ht m hm => ?_, fun t ht m hm m' hm' => ?_, fun m m' hm hm' hne he => ?_, ?_⟩
     · obtain ⟨_, i, hi, rfl⟩ := (hmem t).1 ht
       rw [hrow i hi]; exact hps.filter _
     · obtain ⟨_, i, hi, rfl⟩ := (hmem t).1 ht
       exact ((hin i m hi).1 hm).1
     · obtain ⟨_, i, hi, rfl⟩ := (hmem t).1 ht
       obtain ⟨a1, a2⟩ := (hin i m hi).1 hm
       obtain ⟨b1, b2⟩ := (hin i m' hi).1 hm'
       exact (hE m m' a1 b1).1 (a2.trans b2.symm)
     · have hl : lab m ∈ rs := hG.met m (by rw [List.take_length]; exact (hms m).2 hm)
       obtain ⟨i, hi, e⟩ := sr.1 hl
       have g1 := (hin i m hi).2 ⟨hm, e.symm⟩
       have g2 := (hin i m' hi).2 ⟨hm', ((hE m m' hm hm').2 he).symm.trans e.symm⟩
       refine ⟨gt al (i : Int), (hmem _).2 ⟨?_, i, hi, rfl⟩, g1, g2⟩
       generalize gt al (i : Int) = t at g1 g2
       match t, g1, g2 with
       | [x], g1, g2 => simp at g1 g2; exact (hne (g1.trans g2.symm)).elim
       | x :: y :: t, _, _ => simp
     · refine List.Pairwise.filter _ ?_
       rw [List.pairwise_iff_getElem]
       intro i i' hi hi' hii
       have ei : al[i] = gt al (i : Int) := by rw [cO]; simp [List.getD, geT hi]
       have ei' : al[i'] = gt al (i' : Int) := by rw [cO]; simp [List.getD, geT hi']
       rw [ei, ei']
       have hln := hG.len
       refine ⟨hG.ord i i' hii (by omega), fun x hx y hy he => ?_⟩
       obtain ⟨a1, a2⟩ := (hin i x (by omega)).1 hx
       obtain ⟨b1, b2⟩ := (hin i' y (by omega)).1 hy
       have := (hE x y a1 b1).2 he
       rw [a2, b2] at this
       have hi2 : i < rs.length := by omega
       have hi2' : i' < rs.length := by omega
       simp only [List.getD, geT hi2, geT hi2', Option.getD_some] at this
       have := (List.getElem_inj hG.nd).1 this
       omega
end Go.L


set_option linter.all false
namespace Go.L
open Go Go.Eng
theorem Ap {n : Nat} (hn : 1024 < n) {l : Tis} (hc : nt l = 0) :
  Ok (gr n l) (fun o => o.2 = 0 /\ Canon (jo (km l)) (iI (km l)) o.1) := by
 have hl : l.length <= 256 := by
  unfold nt at hc
  split at hc
  · omega
  · omega
 have hv : ∀ t ∈ l, okT t := by
  unfold nt at hc
  rw [if_neg (by omega)] at hc
  exact mH.1 hc
 obtain ⟨s1, s2, s3⟩ := qk hv
 unfold gr
 refine Ok.bde (sU (by omega)) ?_
 rw [hc]
 refine Ok.cd (fun h => by cases h) (fun _ => ?_)
 refine Ok.bd (r6 hn hl hv) ?_
 rintro ⟨S, num, M, p, img⟩ ⟨e, hS, hm, hml⟩
 dsimp only at e hS hm hml ⊢
 refine Ok.bd (yT hn hS (by omega) (by omega)) ?_
 rintro ⟨c, ts⟩ hC
 refine aw.2 ⟨rfl, ?_⟩
 dsimp only at hC ⊢
 have e : (· ∈ M) = iI (km l) := by funext m; exact propext (hm m)
 rwa [e] at hC
theorem xR {n : Nat} (hn : 1024 < n) {l : Tis} (hc : nt l = 0) :
  Ok (fS n l) (fun o => o.2 = 0 /\ o.1.Pairwise (fun a b => kT a < kT b) /\ (∀ t, t ∈ o.1 ↔ t ∈ km l /\ ¬ jo (km l) t.A t.B) /\ o.1.length <= l.length) := by
 have hl : l.length <= 256 := by
  unfold nt at hc
  split at hc
  · omega
  · omega
 have hv : ∀ t ∈ l, okT t := by
  unfold nt at hc
  rw [if_neg (by omega)] at hc
  exact mH.1 hc
 obtain ⟨s1, s2, s3⟩ := qk hv
 unfold fS
 refine Ok.bde (sU (by omega)) ?_
 rw [hc]
 refine Ok.cd (fun h => by cases h) (fun _ => ?_)
 refine Ok.bd (r6 hn hl hv) ?_
 rintro ⟨S, num, M, p, img⟩ ⟨e, hS, hm, hml⟩
 dsimp only at e hS hm hml ⊢
 subst e
 generalize km l = S at *
 obtain ⟨h1, h2, h3, h4, h5, h6, r, τ, hU, hR, hB⟩ := hS
 refine Ok.bd (R := fun o => o.Pairwise (fun a b => kT a < kT b) /\ (∀ t, t ∈ o ↔ t ∈ S /\ ¬ jo S t.A t.B) /\ o.length <= S.length) ?_ (by rintro o ⟨a, b, c⟩; exact aw.2 ⟨rfl, a, b, by dsimp only; omega⟩)
 refine pj (γ := List Int × Tis) (len := S.length) (fun c x => (c.1, c.2, x)) (fun k c => UF c.1 r τ S.length M.length /\ c.2.Pairwise (fun a b => kT a < kT b) /\ (∀ t, t ∈ c.2 ↔ t ∈ S.take k /\ ¬ jo S t.A t.B) /\ c.2.length <= k) (by omega) (by omega) (c0 := (p, [])) ⟨hU, .nil, fun t => by simp, Nat.le_refl _⟩ ?_ ?_
 · rintro again k ⟨c, out⟩ hk ⟨hUc, o1, o2, o3⟩ ih
   dsimp only at hUc o1 o2 o3 ⊢
   refine Ok.cd (fun _ => ?_) (fun h => by have := dcF h; omega)
   refine Ok.gd (by rw [aJ]; exact decide_eq_true hk) ?_
   have et : gt S (k : Int) = S[k] := by rw [cO]; simp [List.getD, geT hk]
   have htS : gt S (k : Int) ∈ S := by rw [et]; exact List.getElem_mem hk
   have hts : S.take (k + 1) = S.take k ++ [gt S (k : Int)] := by rw [List.take_add_one, geT hk, et]; rfl
   have hbig : ∀ x ∈ S.take k, kT x < kT (gt S (k : Int)) := fun x hx => by
    obtain ⟨i, hi, rfl⟩ := List.getElem_of_mem hx
    rw [List.length_take] at hi
    rw [List.getElem_take, et]
    exact List.pairwise_iff_getElem.1 s1 i k (by omega) hk (by omega)
   generalize gt S (k : Int) = t at *
   obtain ⟨ka, hka, eA⟩ := uV.1 ((hm t.A).2 ⟨t, htS, .inl rfl⟩)
   obtain ⟨kb, hkb, eB⟩ := uV.1 ((hm t.B).2 ⟨t, htS, .inr rfl⟩)
   have f1 := oz (n := n) (c0 := S) (img := img) (by omega) h2 h1 hUc hka
   rw [eA] at f1
   refine Ok.bd f1 ?_
   rintro ⟨c1, v1⟩ ⟨hU1, e1⟩
   have f2 := oz (n := n) (c0 := S) (img := img) (by omega) h2 h1 hU1 hkb
   rw [eB] at f2
   refine Ok.bd f2 ?_
   rintro ⟨c2, v2⟩ ⟨hU2, e2⟩
   dsimp only at hU1 hU2 e1 e2 ⊢
   subst e1; subst e2
   have hrel := hR ka kb hka hkb
   rw [eA, eB] at hrel
   refine Ok.cd (fun hne => ?_) (fun he => ?_)
   · have hne : r ka ≠ r kb := fun e => by rw [e] at hne; simp at hne
     have hnr : ¬ jo S t.A t.B := fun h => hne (hrel.2 h)
     refine Ok.gd (decide_eq_true (by omega)) (Ok.gd (decide_eq_true (by omega)) (ih (_, _) ⟨hU2, ?_, fun x => ?_, by dsimp only; rw [List.length_append, List.length_singleton]; omega⟩))
     · dsimp only
       refine List.pairwise_append.2 ⟨o1, List.pairwise_singleton _ _, fun x hx y hy => ?_⟩
       simp at hy; subst hy
       exact hbig x ((o2 x).1 hx).1
     · dsimp only
       rw [hts, List.mem_append, List.mem_append, o2, List.mem_singleton]
       constructor
       · rintro (⟨a, b⟩ | rfl)
         · exact ⟨.inl a, b⟩
         · exact ⟨.inr rfl, hnr⟩
       · rintro ⟨a | a, b⟩
         · exact .inl ⟨a, b⟩
         · exact .inr a
   · have he : r ka = r kb := by have : ((r ka : Nat) : Int) = r kb := by simpa using he
                                 omega
     refine ih (_, _) ⟨hU2, o1, fun x => ?_, by dsimp only; omega⟩
     dsimp only
     rw [o2, hts, List.mem_append, List.mem_singleton]
     constructor
     · rintro ⟨a, b⟩; exact ⟨.inl a, b⟩
     · rintro ⟨a | rfl, b⟩
       · exact ⟨a, b⟩
       · exact (b (hrel.1 he)).elim
 · rintro again ⟨c, out⟩ ⟨hUc, o1, o2, o3⟩
   dsimp only at o1 o2 o3 ⊢
   refine Ok.cd (fun h => by have := dcT h; omega) (fun _ => aw.2 ⟨o1, fun t => ?_, o3⟩)
   rw [o2, List.take_length]
end Go.L

