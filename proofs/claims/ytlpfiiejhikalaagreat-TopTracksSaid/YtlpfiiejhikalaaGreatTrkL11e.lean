import Derived.Test.YtlpfiiejhikalaaGreatTrkL11c
import Derived.Test.YtlpfiiejhikalaaGreatTrkL26C
import Derived.Test.YtlpfiiejhikalaaGreatScRTrks
set_option linter.all false
namespace Go.L
open Go Go.Eng
theorem mv {γ : Type} [Inhabited γ] {l : List γ} {k : Nat} (hk : k < l.length) : gt l (k : Int) = l[k] := by rw [cO]; simp [List.getD, geT hk]
theorem yd {n : Nat} {s t : List aa} (hn : s.length < n) (hl : s.length <= 1000) : Ok (aZ n s t) (fun b => b = true ↔ s = t) := by
 unfold aZ
 refine Ok.cd (fun h => aw.2 ⟨fun e => (by cases e), fun e => (by subst e; simp at h)⟩) (fun h => ?_)
 have he : s.length = t.length := by
  have : (s.length : Int) = (t.length : Int) := by simpa using h
  omega
 refine Ok.bd (R := fun o : Sum Unit Bool => match o with | .inl _ => s = t | .inr b => b = true ↔ s = t) ?_ (by
  rintro (_ | b) h
  · exact aw.2 ⟨fun _ => h, fun _ => rfl⟩
  · exact aw.2 h)
 refine bI (fun x : Int => ∃ m : Nat, x = m /\ m <= s.length /\ ∀ j : Nat, j < m -> gt s (j : Int) = gt t (j : Int)) (fun x => s.length - x.toNat) ?_ n 0 ⟨0, rfl, Nat.zero_le _, fun j hj => by omega⟩ (by first | omega | (dsimp only; omega))
 rintro again x ⟨m, rfl, hm, hI⟩ ih
 refine Ok.cd (fun h => ?_) (fun h => ?_)
 · have hlt : m < s.length := by have := dcT h; omega
   refine Ok.gd (by rw [aJ]; exact decide_eq_true hlt) (Ok.gd (by rw [aJ]; exact decide_eq_true (by omega)) ?_)
   have ew : Ew ((m : Int) + 1) = ((m + 1 : Nat) : Int) := by rw [wrap64_in (by omega) (by omega)]; omega
   refine Ok.cd (fun hne => aw.2 ?_) (fun heq => ?_)
   · refine ⟨fun e => (by cases e), fun e => ?_⟩
     subst e
     simp at hne
   · rw [ew]
     refine ih _ ⟨m + 1, rfl, by omega, fun j hj => ?_⟩ (by first | omega | (dsimp only; omega))
     rcases Nat.lt_succ_iff_lt_or_eq.1 hj with hj | rfl
     · exact hI j hj
     · have h1 : (gt s (j : Int)).Image = (gt t (j : Int)).Image /\ (gt s (j : Int)).Feature = (gt t (j : Int)).Feature := by simpa using heq
       cases h2 : gt s (j : Int); cases h3 : gt t (j : Int)
       rw [h2, h3] at h1
       simp only at h1
       rw [h1.1, h1.2]
 · have : m = s.length := by have := dcF h; omega
   subst this
   refine aw.2 ?_
   apply List.ext_getElem he
   intro i h1 h2
   have := hI i h1
   rwa [mv h1, mv h2] at this
theorem xx {n : Nat} {ts : List (List aa)} {l : List aa} (hn : ts.length < n) (hl : ts.length <= 1000) (hm : ∀ t ∈ ts, t.length < n /\ t.length <= 1000) : Ok (aL n ts l) (fun b => l ∈ ts -> b = true) := by
 unfold aL
 refine Ok.bd (R := fun i : Int => l ∈ ts -> 0 <= i) ?_ (fun i h => aw.2 fun hl => decide_eq_true (h hl))
 unfold aU
 refine Ok.bd (R := fun o : Sum Unit Int => match o with | .inl _ => l ∉ ts | .inr i => 0 <= i) ?_ (by
  rintro (_ | b) h
  · exact aw.2 fun hl => (h hl).elim
  · exact aw.2 fun _ => h)
 refine bI (fun x : Int => ∃ m : Nat, x = m /\ m <= ts.length /\ ∀ j : Nat, j < m -> gt ts (j : Int) ≠ l) (fun x => ts.length - x.toNat) ?_ n 0 ⟨0, rfl, Nat.zero_le _, fun j hj => by omega⟩ (by first | omega | (dsimp only; omega))
 rintro again x ⟨m, rfl, hmm, hI⟩ ih
 refine Ok.cd (fun h => ?_) (fun h => ?_)
 · have hlt : m < ts.length := by have := dcT h; omega
   refine Ok.gd (by rw [aJ]; exact decide_eq_true hlt) ?_
   have hin : gt ts (m : Int) ∈ ts := by rw [mv hlt]; exact List.getElem_mem hlt
   obtain ⟨q1, q2⟩ := hm _ hin
   refine Ok.bd (R := fun b => b = true ↔ gt ts (m : Int) = l) (by unfold dU; exact Ok.bd (yd q1 q2) (fun b h => aw.2 h)) ?_
   intro b hb
   refine Ok.cd (fun _ => aw.2 (by first | omega | (dsimp only; omega))) (fun hf => ?_)
   have ew : Ew ((m : Int) + 1) = ((m + 1 : Nat) : Int) := by rw [wrap64_in (by omega) (by omega)]; omega
   rw [ew]
   refine ih _ ⟨m + 1, rfl, by omega, fun j hj => ?_⟩ (by first | omega | (dsimp only; omega))
   rcases Nat.lt_succ_iff_lt_or_eq.1 hj with hj | rfl
   · exact hI j hj
   · intro e; rw [hb.2 e] at hf; cases hf
 · have : m = ts.length := by have := dcF h; omega
   subst this
   refine aw.2 fun hl => ?_
   obtain ⟨i, hi, rfl⟩ := List.getElem_of_mem hl
   exact hI i hi (mv hi)
structure jt (pix : aa -> ah) (D : List aa) (s : List (ah × List aa)) : Prop where
 get : ∀ q, getM [] s q = D.filter (fun m => decide (pix m = q))
 has : ∀ q, cW s q = true ↔ ∃ m ∈ D, pix m = q
 keys : s.Pairwise (fun p q => p.1 ≠ q.1)
theorem jt.nil (pix : aa -> ah) : jt pix [] [] := ⟨fun q => rfl, fun q => by simp [cW], .nil⟩
theorem pC {κ α : Type} [DecidableEq κ] {x : κ} {v : α} : ∀ {l : List (κ × α)}, cW l x = true -> (dT l x v).map (·.1) = l.map (·.1)
 | [], h => by simp [cW] at h
 | p :: l, h => by
  unfold cW at h; unfold dT
  cases hx : x == p.1 with
  | true => have := eq_of_beq hx; subst this; rfl
  | false =>
   rw [hx] at h
   show p.1 :: (dT l x v).map (·.1) = _
   rw [pC (l := l) h]; rfl
theorem keys_map {κ α : Type} {l : List (κ × α)} : l.Pairwise (fun p q => p.1 ≠ q.1) ↔ (l.map (·.1)).Pairwise (· ≠ ·) := by rw [List.pairwise_map]
theorem jt.put {pix : aa -> ah} {D : List aa} {s : List (ah × List aa)} (h : jt pix D s) {m : aa} {q : ah} (hq : pix m = q) : jt pix (D ++ [m]) (dT s q (getM [] s q ++ [m])) := by
 refine ⟨fun y => ?_, fun y => ?_, ?_⟩
 · rw [qS, List.filter_append]
   split
   · rename_i e; subst e
     rw [h.get]; simp [hq]
   · rename_i e
     have : decide (pix m = y) = false := decide_eq_false (fun e' => e (e'.symm.trans hq))
     rw [h.get]; simp [this]
 · rw [iK]
   have hk : ∀ y, (∃ p ∈ dT s q (getM [] s q ++ [m]), p.1 = y) ↔ y = q \/ ∃ p ∈ s, p.1 = y := fun y => by
    have e : (∃ p ∈ dT s q (getM [] s q ++ [m]), p.1 = y) ↔ y ∈ (dT s q (getM [] s q ++ [m])).map (·.1) := by simp
    rw [e]
    cases hh : cW s q with
    | true =>
     rw [pC hh]
     have hq' := iK.1 hh
     constructor
     · intro h; exact .inr (by simpa using h)
     · rintro (rfl | h)
       · simpa using hq'
       · simpa using h
    | false =>
     rw [mb hh, List.map_append, List.mem_append]
     constructor
     · rintro (h | h)
       · exact .inr (by simpa using h)
       · exact .inl (by simpa using h)
     · rintro (rfl | h)
       · exact .inr (by simp)
       · exact .inl (by simpa using h)
   rw [hk, <- iK, h.has]
   constructor
   · rintro (rfl | ⟨x, hx, e⟩)
     · exact ⟨m, by simp, hq⟩
     · exact ⟨x, by simp [hx], e⟩
   · rintro ⟨x, hx, e⟩
     rcases List.mem_append.1 hx with hx | hx
     · exact .inr ⟨x, hx, e⟩
     · obtain rfl := List.mem_singleton.1 hx
       exact .inl (e.symm.trans hq)
 · rw [keys_map]
   cases hh : cW s q with
   | true => rw [pC hh, <- keys_map]; exact h.keys
   | false =>
    rw [mb hh, List.map_append, List.pairwise_append]
    refine ⟨keys_map.1 h.keys, by simp, fun a ha b hb e => ?_⟩
    simp at hb
    subst hb; subst e
    have : cW s a = true := iK.2 (by simpa using ha)
    rw [hh] at this; cases this
def marksOf (i : Int) (k : Nat) : List aa := (List.range k).map fun j : Nat => (⟨i, (j : Int)⟩ : aa)
theorem wj {n : Nat} {A : List ah} {i : Int} {pix : aa -> ah} (hp : ∀ k : Nat, k < A.length -> pix ⟨i, (k : Int)⟩ = gt A (k : Int)) {D : List aa} {s0 : List (ah × List aa)} (hn : A.length < n) (hA : A.length <= 64) (hD : D.length <= 1000) (h0 : jt pix D s0)
  {f : (List (ah × List aa) × Int -> Option (List (ah × List aa))) -> List (ah × List aa) × Int -> Option (List (ah × List aa))}
  (hf : ∀ again s x, f again (s, x) = cdO (decide (x < (A.length : Int))) (gdO (inR x A.length) (gdO (decide (((getM [] s (gt A x)).length + 1) * 16 <= 140737488355328)) (gdO (decide ((getM [] s (gt A x)).length + 1 <= 4611686018427387904)) (again (dT s (gt A x) ((getM [] s (gt A x)) ++ [aa.mk i x]), Ew (x + 1)))))) (some s)) :
  Ok (aP n f (s0, 0)) (jt pix (D ++ marksOf i A.length)) := by
 refine bI (fun s : List (ah × List aa) × Int => ∃ m : Nat, s.2 = m /\ m <= A.length /\ jt pix (D ++ marksOf i m) s.1) (fun s => A.length - s.2.toNat) ?_ n (s0, 0) ⟨0, rfl, Nat.zero_le _, by simpa [marksOf] using h0⟩ (by first | omega | (dsimp only; omega))
 rintro again ⟨s, x⟩ ⟨m, rfl, hm, hS⟩ ih
 dsimp only at hS hm ⊢
 rw [hf]
 refine Ok.cd (fun h => ?_) (fun h => ?_)
 · have hlt : m < A.length := by have := dcT h; omega
   have hlen : (getM [] s (gt A (m : Int))).length <= 2000 := by
    rw [hS.get]
    refine Nat.le_trans (List.length_filter_le _ _) ?_
    simp [marksOf]; omega
   refine Ok.gd (by rw [aJ]; exact decide_eq_true hlt) (Ok.gd (decide_eq_true (by omega)) (Ok.gd (decide_eq_true (by omega)) ?_))
   have ew : Ew ((m : Int) + 1) = ((m + 1 : Nat) : Int) := by rw [wrap64_in (by omega) (by omega)]; omega
   rw [ew]
   refine ih (_, ((m + 1 : Nat) : Int)) ⟨m + 1, rfl, by omega, ?_⟩ (by first | omega | (dsimp only; omega))
   have := hS.put (hp m hlt)
   have e : D ++ marksOf i (m + 1) = D ++ marksOf i m ++ [⟨i, (m : Int)⟩] := by simp [marksOf, List.range_succ]
   rw [e]; exact this
 · have : m = A.length := by have := dcF h; omega
   subst this
   exact aw.2 hS
def iy (p : List (ah × List aa)) : List (List aa) := (p.filter fun e => decide (1 < e.2.length)).map (·.2)
theorem ze {f : List (List aa) -> ah × List aa -> Option (List (List aa))}
  (hf : ∀ w e, f w e = cdO (decide ((e.2.length : Int) > 1)) (gdO (decide ((w.length + 1) * 24 <= 140737488355328)) (gdO (decide (w.length + 1 <= 4611686018427387904)) (some (w ++ [e.2])))) (some w)) :
  ∀ (p : List (ah × List aa)) (w : List (List aa)), w.length + p.length <= 1000 -> jD f w p = some (w ++ iy p)
 | [], w, _ => by simp [jD, iy]
 | e :: p, w, h => by
  simp only [List.length_cons] at h
  have h1 : f w e = some (w ++ iy [e]) := by
   rw [hf]
   by_cases hc : 1 < e.2.length
   · have : decide ((e.2.length : Int) > 1) = true := decide_eq_true (by omega)
     rw [this]
     simp only [cdO, cond_true, gdO]
     rw [decide_eq_true (by omega : (w.length + 1) * 24 <= 140737488355328), decide_eq_true (by omega : w.length + 1 <= 4611686018427387904)]
     simp [iy, hc]
   · have : decide ((e.2.length : Int) > 1) = false := decide_eq_false (by omega)
     rw [this]
     simp [cdO, iy, hc]
  have h2 := ze hf p (w ++ iy [e]) (by
   have : (iy [e]).length <= 1 := by unfold iy; rw [List.length_map]; exact Nat.le_trans (List.length_filter_le _ _) (by simp)
   rw [List.length_append]; omega)
  have e3 : jD f w (e :: p) = jD f (w ++ iy [e]) p := by
   show bdO (f w e) (fun s => jD f s p) = _
   rw [h1]; rfl
  rw [e3, h2, List.append_assoc]
  congr 2
  unfold iy
  rw [<- List.map_append, <- List.filter_append]; rfl
end Go.L


set_option linter.all false
namespace Go.L
open Go Go.Eng
section
variable {V : aa -> Prop} {pix : aa -> ah} {D : List aa} {ts : List (List aa)}
theorem sK (hD : D.Pairwise (fun a b => kM a < kM b)) (hV : ∀ m, m ∈ D ↔ V m) (hC : Canon (fun m m' => m = m' \/ (V m /\ V m' /\ pix m = pix m')) (fun m => ∃ m', V m /\ V m' /\ m ≠ m' /\ pix m = pix m') ts)
  {t : List aa} (ht : t ∈ ts) {a : aa} (ha : a ∈ t) : t = D.filter (fun m => decide (pix m = pix a)) := by
 have hs : ∀ {x y : aa}, (x = y \/ (V x /\ V y /\ pix x = pix y)) -> (y = x \/ (V y /\ V x /\ pix y = pix x)) := by
  rintro x y (rfl | ⟨h1, h2, h3⟩)
  · exact .inl rfl
  · exact .inr ⟨h2, h1, h3.symm⟩
 obtain ⟨a', va, _⟩ := hC.val t ht a ha
 refine rZ (hC.srt t ht) (hD.filter _) fun x => ⟨fun hx => ?_, fun hx => ?_⟩
 · rw [List.mem_filter, decide_eq_true_eq, hV]
   rcases hC.rel t ht a ha x hx with rfl | ⟨_, h2, h3⟩
   · exact ⟨va, rfl⟩
   · exact ⟨h2, h3.symm⟩
 · rw [List.mem_filter, decide_eq_true_eq, hV] at hx
   by_cases e : a = x
   · subst e; exact ha
   · obtain ⟨t', ht', h1, h2⟩ := hC.all a x ⟨x, va, hx.1, e, hx.2.symm⟩ ⟨a, hx.1, va, fun e' => e e'.symm, hx.2⟩ e (.inr ⟨va, hx.1, hx.2.symm⟩)
     rw [hC.one hs ht ht' ha h1]; exact h2
theorem uU (hD : D.Pairwise (fun a b => kM a < kM b)) (hV : ∀ m, m ∈ D ↔ V m) (hC : Canon (fun m m' => m = m' \/ (V m /\ V m' /\ pix m = pix m')) (fun m => ∃ m', V m /\ V m' /\ m ≠ m' /\ pix m = pix m') ts)
  {seen p : List (ah × List aa)} (hS : jt pix D seen) (hp : p.Perm seen) : (iy p).length = ts.length /\ ∀ l ∈ iy p, l ∈ ts := by
 have hval : ∀ q l, (q, l) ∈ p -> l = D.filter (fun m => decide (pix m = q)) := fun q l h => by
  have := qO (z := []) hS.keys (hp.mem_iff.1 h)
  rw [<- this, hS.get]
 have hmem : ∀ l, l ∈ iy p ↔ ∃ q, (q, l) ∈ p /\ 1 < l.length := fun l => by
  unfold iy
  simp only [List.mem_map, List.mem_filter, decide_eq_true_eq]
  constructor
  · rintro ⟨⟨q, l'⟩, ⟨h1, h2⟩, rfl⟩; exact ⟨q, h1, h2⟩
  · rintro ⟨q, h1, h2⟩; exact ⟨(q, l), ⟨h1, h2⟩, rfl⟩
 have hsub : ∀ l ∈ iy p, l ∈ ts := fun l hl => by
  obtain ⟨q, h1, h2⟩ := (hmem l).1 hl
  have e := hval q l h1
  have hs : l.Pairwise (fun a b => kM a < kM b) := by rw [e]; exact hD.filter _
  obtain ⟨a, b, ha, hb, hne⟩ := zd (by omega) hs
  have ha' := ha; have hb' := hb
  rw [e, List.mem_filter, decide_eq_true_eq, hV] at ha' hb'
  have hpx : pix a = pix b := ha'.2.trans hb'.2.symm
  obtain ⟨t, ht, h3, h4⟩ := hC.all a b ⟨b, ha'.1, hb'.1, hne, hpx⟩ ⟨a, hb'.1, ha'.1, fun e => hne e.symm, hpx.symm⟩ hne (.inr ⟨ha'.1, hb'.1, hpx⟩)
  have := sK hD hV hC ht h3
  rw [e, <- ha'.2, <- this]; exact ht
 refine ⟨?_, hsub⟩
 have hk : p.Pairwise (fun p q => p.1 ≠ q.1) := (hp.pairwise_iff (fun h e => h e.symm)).2 hS.keys
 have n1 : (iy p).Nodup := by
  unfold iy
  rw [List.nodup_iff_pairwise_ne, List.pairwise_map]
  rw [List.pairwise_filter]
  refine List.Pairwise.imp_of_mem ?_ hk
  rintro ⟨q, l⟩ ⟨q', l'⟩ h1 h2 hne hl hl' e
  simp only [decide_eq_true_eq] at hl hl' e hne
  subst e
  have e1 := hval _ _ h1
  have e2 := hval _ _ h2
  cases l with
  | nil => simp at hl
  | cons m l =>
   have m1 : m ∈ D.filter (fun m => decide (pix m = q)) := by rw [<- e1]; simp
   have m2 : m ∈ D.filter (fun m => decide (pix m = q')) := by rw [<- e2]; simp
   rw [List.mem_filter, decide_eq_true_eq] at m1 m2
   exact hne (m1.2.symm.trans m2.2)
 have n2 : ts.Nodup := by
  rw [List.nodup_iff_pairwise_ne]
  exact hC.ord.imp fun h e => by subst e; have := h.1; omega
 refine (List.Perm.length_eq ((List.perm_ext_iff_of_nodup n1 n2).2 fun l => ⟨hsub l, fun hl => ?_⟩))
 obtain ⟨a, b, ha, hb, hne⟩ := zd (hC.two l hl) (hC.srt l hl)
 have e := sK hD hV hC hl ha
 obtain ⟨_, va, _⟩ := hC.val l hl a ha
 have hh : cW seen (pix a) = true := (hS.has _).2 ⟨a, (hV a).2 va, rfl⟩
 refine (hmem l).2 ⟨pix a, ?_, hC.two l hl⟩
 have := u6 (z := []) hh
 rw [hS.get, <- e] at this
 exact hp.mem_iff.2 this
end
end Go.L

