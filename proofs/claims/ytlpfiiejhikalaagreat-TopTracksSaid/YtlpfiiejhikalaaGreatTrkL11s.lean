import Derived.Test.YtlpfiiejhikalaaGreatTrkL11h
import Derived.Test.YtlpfiiejhikalaaGreatTrkLD
import Derived.Test.YtlpfiiejhikalaaGreatPl2Trks
import Derived.Sort.AssemblyPlain
set_option linter.all false
namespace Go.L
open Go Go.Eng
section
variable {r : ak} {w h : Nat} {p : List aj}
structure np (r : ak) (w w2 x0 y0 y x : Nat) (l : List Int) : Prop where
 len : l.length = y * w2 + x
 px : ∀ i j : Nat, i < w2 -> (j < y \/ (j = y /\ i < x)) -> gt l ((j * w2 + i : Nat) : Int) = qc r w (x0 + i) (y0 + j)
 rg : ∀ k : Nat, k < l.length -> 0 <= gt l (k : Int) /\ gt l (k : Int) <= r.Max
theorem xg {w2 i j y x : Nat} (hi : i < w2) (h : j < y \/ (j = y /\ i < x)) : j * w2 + i < y * w2 + x := by
 rcases h with h | ⟨rfl, h⟩
 · have : (j + 1) * w2 <= y * w2 := Nat.mul_le_mul_right w2 h
   rw [Nat.add_mul] at this; omega
 · omega
theorem np.add {w2 x0 y0 y x : Nat} {l : List Int} (hP : np r w w2 x0 y0 y x l) {v : Int} (hv : v = qc r w (x0 + x) (y0 + y)) (hr : 0 <= v /\ v <= r.Max) : np r w w2 x0 y0 y (x + 1) (l ++ [v]) := by
 have hl := hP.len
 refine ⟨by rw [List.length_append, hl]; simp; omega, fun i j hi hij => ?_, fun k hk => ?_⟩
 · rw [gT]
   by_cases e : j = y /\ i = x
   · obtain ⟨rfl, rfl⟩ := e
     rw [if_neg (by omega), if_pos (by omega)]; exact hv
   · have hij' : j < y \/ (j = y /\ i < x) := by omega
     have := xg (x := x) hi hij'
     rw [if_pos (by omega)]; exact hP.px i j hi hij'
 · rw [gT]
   by_cases e : k < l.length
   · rw [if_pos e]; exact hP.rg k e
   · have : k = l.length := by simp at hk; omega
     rw [if_neg e, if_pos this]; exact hr
theorem np.line {w2 x0 y0 y : Nat} {l : List Int} (hP : np r w w2 x0 y0 y w2 l) : np r w w2 x0 y0 (y + 1) 0 l :=
 ⟨by rw [hP.len, Nat.add_mul]; omega, fun i j hi hij => hP.px i j hi (by omega), hP.rg⟩
theorem vY {n : Nat} (hr : jZ r w h) (hn : 100 < n) {x0 y0 w2 h2 : Nat} (hw2 : 1 <= w2) (hh2 : 1 <= h2) (hx : x0 + w2 <= w) (hy : y0 + h2 <= h) : Ok (gk n r x0 y0 w2 h2) (fun o => o.2 = 0 /\ nO r w h o.1 w2 h2 x0 y0) := by
 have w9 := hr.w9; have h9 := hr.h9
 have hW := hr.wd; have hH := hr.ht
 have wh := mS (w := w2) (h := h2) (by omega) (by omega)
 unfold gk
 refine Ok.bde (y6 hr hn) ?_
 refine Ok.cd (fun h => by cases h) (fun _ => ?_)
 refine Ok.bd (R := fun b => b = true) ?_ ?_
 · unfold lO
   rw [hW, hH]
   refine Ok.cd (fun _ => ?_) (fun h => by have := dcF h; omega)
   refine Ok.cd (fun _ => ?_) (fun h => by have := dcF h; omega)
   exact Ok.cd (fun _ => aw.2 (decide_eq_true (by omega))) (fun h => by have := dcF h; omega)
 rintro _ rfl
 rw [hW, hH, wrap64_in (by omega) (by omega), wrap64_in (by omega) (by omega)]
 refine Ok.cd (fun h => by cases h) (fun _ => ?_)
 refine Ok.cd (fun h => by have := dcT h; omega) (fun _ => ?_)
 refine Ok.cd (fun h => by have := dcT h; omega) (fun _ => ?_)
 refine Ok.cd (fun h => by have := dcT h; omega) (fun _ => ?_)
 refine Ok.cd (fun h => by have := dcT h; omega) (fun _ => ?_)
 refine Ok.bd (R := fun s => nO r w h s w2 h2 x0 y0) ?_ (fun s hs => aw.2 ⟨rfl, hs⟩)
 unfold c9
 have e : Ew ((w2 : Int) * (h2 : Int)) = ((w2 * h2 : Nat) : Int) := by rw [<- Int.natCast_mul, wrap64_in (by omega) (by omega)]
 rw [e, List.take_zero]
 clear e
 refine Ok.gd (decide_eq_true (by omega)) (Ok.gd (decide_eq_true (by omega)) (Ok.gd (decide_eq_true (by omega)) ?_))
 refine Ok.bd (R := np r w w2 x0 y0 h2 0) ?_ (fun l hl => aw.2 ⟨⟨rfl, rfl, hw2, by omega, hh2, by omega, hr.m1, hr.m2, by rw [hl.len, Nat.mul_comm]; rfl, fun k hk => hl.rg k (by rw [hl.len, Nat.mul_comm]; exact hk)⟩, hx, hy, fun x y hx' hy' => hl.px x y hx' (.inl hy')⟩)
 refine bI (fun s : List Int × Int => ∃ y : Nat, s.2 = y /\ y <= h2 /\ np r w w2 x0 y0 y 0 s.1) (fun s => h2 - s.2.toNat) ?_ n ([], 0) ⟨0, rfl, Nat.zero_le _, by simp, fun i j hi hij => by omega, fun k hk => by simp at hk⟩ (by first | omega | (dsimp only; omega))
 rintro again ⟨a, i⟩ ⟨y, rfl, hyy, hP⟩ ih
 dsimp only at hyy hP ⊢
 refine Ok.cd (fun hcy => ?_) (fun hcy => ?_)
 · have hly : y < h2 := by have := dcT hcy; omega
   have ew : Ew ((y : Int) + 1) = ((y + 1 : Nat) : Int) := by rw [wrap64_in (by omega) (by omega)]; omega
   refine Ok.bd (R := fun l => np r w w2 x0 y0 y w2 l) ?_ (by
    intro a2 hP2
    rw [ew]
    clear ew hcy
    exact ih (a2, ((y + 1 : Nat) : Int)) ⟨y + 1, rfl, by omega, hP2.line⟩ (by first | omega | (dsimp only; omega)))
   clear ew hcy
   refine bI (fun s : List Int × Int => ∃ x : Nat, s.2 = x /\ x <= w2 /\ np r w w2 x0 y0 y x s.1) (fun s => w2 - s.2.toNat) ?_ n (a, 0) ⟨0, rfl, Nat.zero_le _, hP⟩ (by first | omega | (dsimp only; omega))
   rintro again2 ⟨a2, i⟩ ⟨x, rfl, hxx, hP2⟩ ih2
   dsimp only at hxx hP2 ⊢
   refine Ok.cd (fun hcx => ?_) (fun hcx => ?_)
   · have hlx : x < w2 := by have := dcT hcx; omega
     have ex : Ew ((x : Int) + 1) = ((x + 1 : Nat) : Int) := by rw [wrap64_in (by omega) (by omega)]; omega
     rw [ex]
     clear ex hcx
     have q1 : x0 + x < w := by omega
     have q2 : y0 + y < h := by omega
     have e1 : Ew ((x0 : Int) + (x : Int)) = ((x0 + x : Nat) : Int) := (wrap64_in (by omega) (by omega)).trans (by omega)
     have e2 : Ew ((y0 : Int) + (y : Int)) = ((y0 + y : Nat) : Int) := by
      clear e1; exact (wrap64_in (by omega) (by omega)).trans (by omega)
     have hat : gQ n x y r.Width r.Height r.Max r.Pixels x0 y0 = some (qc r w (x0 + x) (y0 + y)) := by
      unfold gQ
      rw [e1, e2, show (ak.mk r.Width r.Height r.Max r.Pixels) = r by rfl, C2 hr q1 q2]; rfl
     clear e1 e2
     rw [hW, hH] at hat
     refine Ok.bde hat ?_
     have hlen := hP2.len
     have := xg (w2 := w2) (i := x) (j := y) (y := h2) (x := 0) hlx (.inl hly)
     rw [Nat.mul_comm h2] at this
     refine Ok.gd (decide_eq_true (by omega)) (Ok.gd (decide_eq_true (by omega)) ?_)
     have hpx := hr.px ((y0 + y) * w + (x0 + x)) (oh (by omega) (by omega))
     exact ih2 (a2 ++ [qc r w (x0 + x) (y0 + y)], ((x + 1 : Nat) : Int)) ⟨x + 1, rfl, by omega, hP2.add rfl hpx⟩ (by first | omega | (dsimp only; omega))
   · have : x = w2 := by have := dcF hcx; omega
     subst this
     exact aw.2 hP2
 · have : y = h2 := by have := dcF hcy; omega
   subst this
   exact aw.2 hP
theorem pT {f g : A4 Int -> Option Int} : ∀ (p : List aj), (∀ t ∈ p, (∀ v, f t.A = some v -> g t.A = some v) /\ ∀ v, f t.B = some v -> g t.B = some v) -> ∀ (k : Nat) (w v : Int), nC f p k w = some v -> nC g p k w = some v
 | [], _, _, _, _, h => h
 | t :: p, hfg, k, w, v, h => by
  obtain ⟨fa, fb⟩ := hfg t (by simp)
  unfold nC at h ⊢
  cases ha : f t.A with
  | none => rw [ha] at h; cases h
  | some a =>
   cases hb : f t.B with
   | none => rw [ha, hb] at h; cases h
   | some b =>
    rw [ha, hb] at h
    rw [fa _ ha, fb _ hb]
    exact pT p (fun x hx => hfg x (by simp [hx])) (k + 1) _ v h
theorem xz {s : ak} {w2 h2 x0 y0 : Nat} (hc : nO r w h s w2 h2 x0 y0) (hp : uR p) {x y : Nat} {v : Int} (h1 : jR s w2 h2 p x y = some v) : jR r w h p (x0 + x) (y0 + y) = some v :=
 pT p (fun t ht => by
  obtain ⟨hA, hB⟩ := hp.2 t ht
  exact ⟨fun v hv => uX hc hv (by have := hA.1; omega) (by have := hA.2.1; omega), fun v hv => uX hc hv (by have := hB.1; omega) (by have := hB.2.1; omega)⟩) 0 0 v h1
structure rh (r : ak) (w h : Nat) (p : List aj) (at' : List ah) (ws : List Int) : Prop where
 len : at'.length = ws.length
 le : at'.length <= 81
 val : ∀ k : Nat, k < at'.length -> ∃ i j : Nat, i < w /\ j < h /\ gt at' (k : Int) = ⟨i, j⟩ /\ jR r w h p i j = some (gt ws (k : Int))
 inj : ∀ k l : Nat, k < at'.length -> l < at'.length -> gt at' (k : Int) = gt at' (l : Int) -> k = l
 rg : ∀ x ∈ ws, kI x
theorem key_inj {at' : List ah} (h : ∀ k l : Nat, k < l -> l < at'.length -> vD (gt at' (k : Int)) < vD (gt at' (l : Int))) (k l : Nat) (hk : k < at'.length) (hl : l < at'.length) (e : vD (gt at' (k : Int)) = vD (gt at' (l : Int))) : k = l := by
 rcases Nat.lt_trichotomy k l with g | g | g
 · have := h k l g hl; omega
 · exact g
 · have := h l k g hk; omega
theorem y8 {s : ak} {w2 h2 : Nat} {at' : List ah} {ws : List Int} (hA : jq s w2 h2 p h2 0 at' ws) : ∀ x ∈ ws, kI x := fun x hx => by
 obtain ⟨k, hk, rfl⟩ := List.getElem_of_mem hx
 obtain ⟨i, j, _, _, _, hv⟩ := hA.val k (by rw [hA.len]; exact hk)
 have e : gt ws (k : Int) = ws[k] := by rw [cO]; simp [List.getD, geT hk]
 rw [<- e]
 exact pS p 0 0 _ ⟨by decide, by decide⟩ hv
theorem tu {n : Nat} {s : ak} {w2 h2 x0 y0 : Nat} (hr : jZ r w h) (hc : nO r w h s w2 h2 x0 y0) (hp : uR p) {at' : List ah} {ws : List Int} (hA : jq s w2 h2 p h2 0 at' ws) (hn : 100 < n)
  {f : (List ah × Int -> Option (List ah)) -> List ah × Int -> Option (List ah)}
  (hf : ∀ again l x, f again (l, x) = cdO (decide (x < (at'.length : Int))) (gdO (inR x at'.length) (gdO (decide ((l.length + 1) * 16 <= 140737488355328)) (gdO (decide (l.length + 1 <= 4611686018427387904)) (again (l ++ [ah.mk (Ew ((gt at' x).X + (x0 : Int))) (Ew ((gt at' x).Y + (y0 : Int)))], Ew (x + 1)))))) (some l)) :
  Ok (aP n f ([], 0)) (fun o => o.length = at'.length /\ rh r w h p o ws) := by
 have w9 := hr.w9; have h9 := hr.h9
 have hwx := hc.wx; have hhy := hc.hy
 have hle : at'.length <= 81 := by have := hA.le; have := mS (w := h2) (h := w2) (by omega) (by omega); omega
 refine Ok.mono (Q := fun o => o.length = at'.length /\ ∀ k : Nat, k < at'.length -> ∃ i j : Nat, i < w2 /\ j < h2 /\ gt at' (k : Int) = ⟨i, j⟩ /\ gt o (k : Int) = ⟨((x0 + i : Nat) : Int), ((y0 + j : Nat) : Int)⟩ /\ jR s w2 h2 p i j = some (gt ws (k : Int))) ?_ ?_
 · refine bI (fun q : List ah × Int => ∃ m : Nat, q.2 = m /\ m <= at'.length /\ q.1.length = m /\ ∀ k : Nat, k < m -> ∃ i j : Nat, i < w2 /\ j < h2 /\ gt at' (k : Int) = ⟨i, j⟩ /\ gt q.1 (k : Int) = ⟨((x0 + i : Nat) : Int), ((y0 + j : Nat) : Int)⟩ /\ jR s w2 h2 p i j = some (gt ws (k : Int))) (fun q => at'.length - q.2.toNat) ?_ n ([], 0) ⟨0, rfl, Nat.zero_le _, rfl, fun k hk => by omega⟩ (by first | omega | (dsimp only; omega))
   rintro again ⟨l, x⟩ ⟨m, rfl, hm, hl, hI⟩ ih
   dsimp only at hm hl hI ⊢
   rw [hf]
   refine Ok.cd (fun hcc => ?_) (fun hcc => ?_)
   · have hlt : m < at'.length := by have := dcT hcc; omega
     refine Ok.gd (by rw [aJ]; exact decide_eq_true hlt) (Ok.gd (decide_eq_true (by omega)) (Ok.gd (decide_eq_true (by omega)) ?_))
     obtain ⟨i, j, hi, hj, e, hv⟩ := hA.val m hlt
     have e1 : Ew ((i : Int) + (x0 : Int)) = ((x0 + i : Nat) : Int) := by rw [wrap64_in (by omega) (by omega)]; omega
     have e2 : Ew ((j : Int) + (y0 : Int)) = ((y0 + j : Nat) : Int) := by rw [wrap64_in (by omega) (by omega)]; omega
     have ew : Ew ((m : Int) + 1) = ((m + 1 : Nat) : Int) := by rw [wrap64_in (by omega) (by omega)]; omega
     rw [e, ew]
     dsimp only
     rw [e1, e2]
     clear e1 e2 ew hcc
     refine ih (_, ((m + 1 : Nat) : Int)) ⟨m + 1, rfl, by omega, by simp [hl], fun k hk => ?_⟩ (by first | omega | (dsimp only; omega))
     dsimp only
     rw [gT]
     rcases Nat.lt_succ_iff_lt_or_eq.1 hk with hk | rfl
     · rw [if_pos (by omega)]; exact hI k hk
     · rw [if_neg (by omega), if_pos hl.symm]
       exact ⟨i, j, hi, hj, e, rfl, hv⟩
   · have : m = at'.length := by have := dcF hcc; omega
     subst this
     exact aw.2 ⟨hl, hI⟩
 · rintro o ⟨hl, hI⟩
   refine ⟨hl, by rw [hl]; exact hA.len, by omega, fun k hk => ?_, fun k l hk hll e => ?_, y8 hA⟩
   · obtain ⟨i, j, hi, hj, e, e', hv⟩ := hI k (by omega)
     exact ⟨x0 + i, y0 + j, by omega, by omega, e', xz hc hp hv⟩
   · obtain ⟨i, j, hi, hj, e1, e1', _⟩ := hI k (by omega)
     obtain ⟨i', j', hi', hj', e2, e2', _⟩ := hI l (by omega)
     rw [e1', e2'] at e
     injection e with ea eb
     have : gt at' (k : Int) = gt at' (l : Int) := by rw [e1, e2]; congr 1 <;> omega
     exact key_inj hA.srt k l (by omega) (by omega) (by rw [this])
def yF (r : ak) (w h : Nat) (p : List aj) : Prop := ∀ i j i' j' : Nat, i < w -> j < h -> i' < w -> j' < h -> ∀ v, jR r w h p i j = some v -> jR r w h p i' j' = some v -> i = i' /\ j = j'
theorem Bt {at' : List ah} {ws : List Int} (hA : jq r w h p h 0 at' ws) (hd : qL ws) : yF r w h p := by
 intro i j i' j' hi hj hi' hj' v h1 h2
 have key : ∀ i j : Nat, i < w -> j < h -> jR r w h p i j = some v -> ∃ k : Nat, k < ws.length /\ gt at' (k : Int) = ⟨i, j⟩ /\ gt ws (k : Int) = v := fun i j hi hj hv => by
  obtain ⟨k, hk, e⟩ := hA.all i j hi hj (.inl hj) v hv
  obtain ⟨a, b, _, _, e', hv'⟩ := hA.val k hk
  rw [e] at e'
  injection e' with ea eb
  obtain rfl : i = a := by omega
  obtain rfl : j = b := by omega
  rw [hv] at hv'
  exact ⟨k, by rw [<- hA.len]; exact hk, e, (Option.some.inj hv').symm⟩
 obtain ⟨k, hk, e1, e2⟩ := key i j hi hj h1
 obtain ⟨l, hl, e3, e4⟩ := key i' j' hi' hj' h2
 have := hd k l hk hl (e2.trans e4.symm)
 subst this
 rw [e1] at e3
 injection e3 with ea eb
 omega
theorem s9 (hi : yF r w h p) {a b : List ah} {u v : List Int} (ha : rh r w h p a u) (hb : rh r w h p b v) {k l : Nat} (hk : k < a.length) (hl : l < b.length) : gt u (k : Int) = gt v (l : Int) ↔ gt a (k : Int) = gt b (l : Int) := by
 obtain ⟨i, j, i1, j1, e, hv⟩ := ha.val k hk
 obtain ⟨i', j', i2, j2, e', hv'⟩ := hb.val l hl
 constructor
 · intro h
   rw [h] at hv
   obtain ⟨rfl, rfl⟩ := hi i j i' j' i1 j1 i2 j2 _ hv hv'
   rw [e, e']
 · intro h
   rw [e, e'] at h
   injection h with ea eb
   obtain rfl : i = i' := by omega
   obtain rfl : j = j' := by omega
   rw [hv] at hv'
   exact Option.some.inj hv'
theorem kW (hi : yF r w h p) {a : List ah} {u : List Int} (ha : rh r w h p a u) : qL u := fun j k hj hk e => by
 have := ha.len
 exact ha.inj j k (by omega) (by omega) ((s9 hi ha ha (by omega) (by omega)).1 e)
end
end Go.L


set_option linter.all false
namespace Go.L
open Go Go.Eng
def ltI : Int -> Int -> Bool := Sort.ltInt
theorem gO (n : Nat) (x y : Int) : aY n x y = some (ltI x y) := by
 unfold aY dI
 simp [bdO, cdO, ltI, Sort.ltInt]
theorem dh (d : List Int) (k : Nat) : d.toArray[k]! = gt d (k : Int) := by
 rw [cO]; simp [List.getD_eq_getElem?_getD]
theorem ie (d : List Int) (i j : Nat) : ((d.set i (gt d (j : Int))).set j (gt d (i : Int))).toArray = Sort.swp d.toArray i j := by
 unfold Sort.swp
 rw [dh, dh]; simp
theorem eu {m : Nat} (h : m <= 100000) : Ew ((m : Int) + 1) = ((m + 1 : Nat) : Int) := by rw [wrap64_in (by omega) (by omega)]; omega
theorem sW {m : Nat} (h : m <= 100000) : Ew (((m + 1 : Nat) : Int) - 1) = (m : Int) := by rw [wrap64_in (by omega) (by omega)]; omega
section
variable {n : Nat} {d : List Int} {a b : Nat}
theorem CI (hab : a <= b) (hb : b <= d.length) (hl : d.length <= 1000) (hn : 2000 < n) : Ok (bM n d a b) (fun r => r.toArray = Sort.insertionSort ltI d.toArray a b) := by
 unfold bM Sort.insertionSort
 rw [eu (by omega)]
 refine Ok.bd (R := fun r => r.toArray = Sort.insOuter ltI a b (a + 1) d.toArray) ?_ (fun r h => aw.2 h)
 generalize htar : Sort.insOuter ltI a b (a + 1) d.toArray = tar
 refine bI (fun s : List Int × Int => ∃ i : Nat, s.2 = i /\ a < i /\ i <= 1001 /\ s.1.length = d.length /\ Sort.insOuter ltI a b i s.1.toArray = tar) (fun s => b - s.2.toNat) ?_ n (d, _) ⟨a + 1, rfl, by omega, by omega, rfl, htar⟩ (by first | omega | (dsimp only; omega))
 rintro again ⟨d1, x⟩ ⟨i, rfl, hai, hi, hd1, ht1⟩ ih
 dsimp only at hd1 ht1 ⊢
 rw [Sort.insOuter] at ht1
 refine Ok.cd (fun hc => ?_) (fun hc => ?_)
 · have hlt : i < b := by have := dcT hc; omega
   rw [if_pos hlt] at ht1
   clear hc
   refine Ok.bd (R := fun r => r.length = d.length /\ r.toArray = Sort.insInner ltI a i d1.toArray) ?_ (by
    rintro r ⟨hr, he⟩
    rw [eu (by omega)]
    exact ih (r, ((i + 1 : Nat) : Int)) ⟨i + 1, rfl, by omega, by omega, hr, by dsimp only; rw [he]; exact ht1⟩ (by first | omega | (dsimp only; omega)))
   generalize htar2 : Sort.insInner ltI a i d1.toArray = tar2
   refine bI (fun s : List Int × Int => ∃ j : Nat, s.2 = j /\ j < d.length /\ s.1.length = d.length /\ Sort.insInner ltI a j s.1.toArray = tar2) (fun s => s.2.toNat) ?_ n (d1, _) ⟨i, rfl, by omega, hd1, htar2⟩ (by first | omega | (dsimp only; omega))
   rintro again2 ⟨d2, x⟩ ⟨j, rfl, hj, hd2, ht2⟩ ih2
   dsimp only at hd2 ht2 ⊢
   rcases j with _ | m
   · refine Ok.cd (fun h => by have := dcT h; omega) (fun _ => aw.2 ⟨hd2, ?_⟩)
     rw [Sort.insInner] at ht2; exact ht2
   · rw [Sort.insInner] at ht2
     rw [sW (by omega)]
     refine Ok.cd (fun hc => ?_) (fun hc => ?_)
     · have hma : m + 1 > a := by have := dcT hc; omega
       refine Ok.gd (by rw [aJ]; exact decide_eq_true (by omega)) (Ok.gd (by rw [aJ]; exact decide_eq_true (by omega)) ?_)
       refine Ok.bde (gO n _ _) ?_
       rw [dh, dh, decide_eq_true hma, Bool.true_and] at ht2
       refine Ok.cd (fun hlt2 => ?_) (fun hlt2 => ?_)
       · rw [if_pos hlt2, <- ie] at ht2
         simp only [Int.toNat_natCast]
         exact ih2 (_, (m : Int)) ⟨m, rfl, by omega, by simp [hd2], ht2⟩ (by first | omega | (dsimp only; omega))
       · rw [if_neg (by rw [hlt2]; simp)] at ht2
         exact aw.2 ⟨hd2, ht2⟩
     · have hma : ¬ m + 1 > a := by have := dcF hc; omega
       rw [decide_eq_false hma, Bool.false_and, if_neg (by simp)] at ht2
       exact aw.2 ⟨hd2, ht2⟩
 · have hlt : ¬ i < b := by have := dcF hc; omega
   rw [if_neg hlt] at ht1
   exact aw.2 ht1
theorem yM (d : List Int) (i j : Nat) (x y : Int) : ((d.set i x).set j y).length = d.length := by simp
theorem yU {lo hi F : Nat} (hs : F + hi <= d.length) (hl : d.length <= 1000) (hlo : lo <= 1000) (hn : 2000 < n) : Ok (bP n d lo hi F) (fun r => r.length = d.length /\ r.toArray = Sort.siftDown ltI hi F lo d.toArray) := by
 unfold bP
 generalize htar : Sort.siftDown ltI hi F lo d.toArray = tar
 refine Ok.bd (R := fun o : Sum (List Int) (List Int) => match o with | .inl r => r.length = d.length /\ r.toArray = tar | .inr r => r.length = d.length /\ r.toArray = tar) ?_ (by
  rintro (r | r) h
  · exact aw.2 h
  · exact aw.2 h)
 refine bI (fun s : List Int × Int => ∃ i : Nat, s.2 = i /\ i <= 1000 /\ s.1.length = d.length /\ Sort.siftDown ltI hi F i s.1.toArray = tar) (fun s => hi - s.2.toNat) ?_ n (d, _) ⟨lo, rfl, hlo, rfl, htar⟩ (by first | omega | (dsimp only; omega))
 rintro again ⟨d1, x⟩ ⟨i, rfl, hi', hd1, ht1⟩ ih
 dsimp only at hd1 ht1 ⊢
 rw [Sort.siftDown] at ht1
 have e1 : Ew ((Ew (2 * (i : Int))) + 1) = ((2 * i + 1 : Nat) : Int) := by rw [wrap64_in (n := 2 * (i : Int)) (by omega) (by omega), wrap64_in (by omega) (by omega)]; omega
 rw [e1, eu (by omega)]
 clear e1
 refine Ok.cd (fun hc => ?_) (fun hc => ?_)
 · have hc := dcT hc
   rw [dif_pos (by omega)] at ht1
   exact aw.2 ⟨hd1, ht1⟩
 · have hc := dcF hc
   have hc : ¬ 2 * i + 1 >= hi := by omega
   rw [dif_neg hc] at ht1
   have key : ∀ c : Nat, (c = 2 * i + 1 \/ c = 2 * i + 2) -> c < hi -> (if (!ltI d1.toArray[F + i]! d1.toArray[F + c]!) = true then d1.toArray else Sort.siftDown ltI hi F c (Sort.swp d1.toArray (F + i) (F + c))) = tar ->
     Ok (gdO (inR (Ew ((F : Int) + (i : Int))) d1.length) (gdO (inR (Ew ((F : Int) + (c : Int))) d1.length) (bdO (aY n (gt d1 (Ew ((F : Int) + (i : Int)))) (gt d1 (Ew ((F : Int) + (c : Int))))) fun v81 => cdO (!v81) (some (Sum.inr d1)) (again ((d1.set (Ew ((F : Int) + (i : Int))).toNat (gt d1 (Ew ((F : Int) + (c : Int))))).set (Ew ((F : Int) + (c : Int))).toNat (gt d1 (Ew ((F : Int) + (i : Int)))), (c : Int))))))
      (fun o : Sum (List Int) (List Int) => match o with | .inl r => r.length = d.length /\ r.toArray = tar | .inr r => r.length = d.length /\ r.toArray = tar) := fun c hcc hch hk => by
    have ei : Ew ((F : Int) + (i : Int)) = ((F + i : Nat) : Int) := by rw [wrap64_in (by omega) (by omega)]; omega
    have ec : Ew ((F : Int) + (c : Int)) = ((F + c : Nat) : Int) := by rw [wrap64_in (by omega) (by omega)]; omega
    rw [ei, ec]
    clear ei ec
    refine Ok.gd (by rw [aJ]; exact decide_eq_true (by omega)) (Ok.gd (by rw [aJ]; exact decide_eq_true (by omega)) ?_)
    refine Ok.bde (gO n _ _) ?_
    rw [dh, dh] at hk
    refine Ok.cd (fun h => ?_) (fun h => ?_)
    · rw [if_pos h] at hk; exact aw.2 ⟨hd1, hk⟩
    · rw [if_neg (by rw [h]; simp), <- ie] at hk
      simp only [Int.toNat_natCast]
      exact ih (_, (c : Int)) ⟨c, rfl, by omega, by simp [hd1], hk⟩ (by first | omega | (dsimp only; omega))
   have e2 : Ew ((F : Int) + ((2 * i + 1 : Nat) : Int)) = ((F + (2 * i + 1) : Nat) : Int) := by rw [wrap64_in (by omega) (by omega)]; omega
   have e3 : Ew (((F + (2 * i + 1) : Nat) : Int) + 1) = ((F + (2 * i + 1) + 1 : Nat) : Int) := eu (by omega)
   refine Ok.bd (R := fun c : Int => ∃ c' : Nat, c = c' /\ (c' = 2 * i + 1 \/ c' = 2 * i + 2) /\ c' < hi /\ (if (!ltI d1.toArray[F + i]! d1.toArray[F + c']!) = true then d1.toArray else Sort.siftDown ltI hi F c' (Sort.swp d1.toArray (F + i) (F + c'))) = tar) ?_ (by
    rintro c ⟨c', rfl, h1, h2, h3⟩
    exact key c' h1 h2 h3)
   refine Ok.cd (fun h2 => ?_) (fun h2 => ?_)
   · have h2 := dcT h2
     have h2' : 2 * i + 1 + 1 < hi := by omega
     rw [e2, e3]
     clear e2 e3
     rw [decide_eq_true h2', Bool.true_and, dh, dh] at ht1
     refine Ok.gd (by rw [aJ]; exact decide_eq_true (by omega)) (Ok.gd (by rw [aJ]; exact decide_eq_true (by omega)) ?_)
     refine Ok.bde (gO n _ _) ?_
     refine Ok.cd (fun h => aw.2 ?_) (fun h => aw.2 ?_)
     · rw [if_pos h] at ht1
       refine ⟨2 * i + 1 + 1, rfl, .inr rfl, h2', ?_⟩
       rw [<- ht1]
       split
       · rfl
       · first | rfl | (rw [dif_pos (by omega)])
     · rw [if_neg (by rw [h]; simp)] at ht1
       exact ⟨2 * i + 1, rfl, .inl rfl, by omega, by rw [dh d1 (F + (2 * i + 1))]; exact ht1⟩
   · have h2 := dcF h2
     have h2' : ¬ 2 * i + 1 + 1 < hi := by omega
     rw [decide_eq_false h2', Bool.false_and, if_neg (by simp)] at ht1
     exact aw.2 ⟨2 * i + 1, rfl, .inl rfl, by omega, ht1⟩
theorem BU (hab : a < b) (hb : b <= d.length) (hl : d.length <= 1000) (hn : 2000 < n) : Ok (cm n d a b) (fun r => r.length = d.length /\ r.toArray = Sort.heapSort ltI d.toArray a b) := by
 unfold cm Sort.heapSort
 have e0 : Ew ((b : Int) - (a : Int)) = ((b - a : Nat) : Int) := by rw [wrap64_in (by omega) (by omega)]; omega
 have e1 : Ew (((b - a : Nat) : Int) - 1) = ((b - a - 1 : Nat) : Int) := by rw [wrap64_in (by omega) (by omega)]; omega
 have e2 : Ew ((((b - a - 1 : Nat) : Int)).tdiv 2) = (((b - a - 1) / 2 : Nat) : Int) := by
  rw [Int.tdiv_eq_ediv_of_nonneg (by omega), wrap64_in (by omega) (by omega)]; omega
 rw [e0, e1, e2]
 clear e0 e1 e2
 obtain ⟨hi, hhi⟩ : ∃ hi, b - a = hi := ⟨_, rfl⟩
 rw [hhi]
 generalize htar : Sort.heapBuild ltI hi a ((hi - 1) / 2 + 1) d.toArray = tar
 refine Ok.bd (R := fun r => r.length = d.length /\ r.toArray = tar) ?_ ?_
 · refine bI (fun s : List Int × Int => ∃ k : Nat, s.2 = (k : Int) - 1 /\ k <= 1000 /\ s.1.length = d.length /\ Sort.heapBuild ltI hi a k s.1.toArray = tar) (fun s => (s.2 + 1).toNat) ?_ n (d, _) ⟨(hi - 1) / 2 + 1, by dsimp only; omega, by omega, rfl, htar⟩ (by first | omega | (dsimp only; omega))
   rintro again ⟨d1, x⟩ ⟨k, hx, hk, hd1, ht1⟩ ih
   dsimp only at hx hd1 ht1 ⊢
   subst hx
   rcases k with _ | k
   · refine Ok.cd (fun h => by have := dcT h; omega) (fun _ => aw.2 ⟨hd1, ?_⟩)
     rw [Sort.heapBuild] at ht1; exact ht1
   · rw [Sort.heapBuild] at ht1
     refine Ok.cd (fun _ => ?_) (fun h => by have := dcF h; omega)
     have ek : ((k + 1 : Nat) : Int) - 1 = (k : Int) := by omega
     rw [ek]
     refine Ok.bd (yU (d := d1) (lo := k) (hi := hi) (F := a) (by omega) (by omega) (by omega) hn) ?_
     rintro r ⟨hr, he⟩
     rw [wrap64_in (by omega) (by omega)]
     exact Ok.gd (decide_eq_true hr) (ih (r, (k : Int) - 1) ⟨k, rfl, by omega, by rw [hr]; exact hd1, by rw [he]; exact ht1⟩ (by first | omega | (dsimp only; omega)))
 · rintro d0 ⟨hd0, he0⟩
   rw [<- he0]
   clear htar he0 tar
   generalize htar : Sort.heapPop ltI a hi d0.toArray = tar
   refine Ok.bd (R := fun r => r.length = d.length /\ r.toArray = tar) ?_ (fun r h => aw.2 h)
   refine bI (fun s : List Int × Int => ∃ k : Nat, s.2 = (k : Int) - 1 /\ k <= hi /\ s.1.length = d.length /\ Sort.heapPop ltI a k s.1.toArray = tar) (fun s => (s.2 + 1).toNat) ?_ n (d0, _) ⟨hi, by dsimp only; omega, by omega, hd0, htar⟩ (by first | omega | (dsimp only; omega))
   rintro again ⟨d1, x⟩ ⟨k, hx, hk, hd1, ht1⟩ ih
   dsimp only at hx hd1 ht1 ⊢
   subst hx
   rcases k with _ | k
   · refine Ok.cd (fun h => by have := dcT h; omega) (fun _ => aw.2 ⟨hd1, ?_⟩)
     rw [Sort.heapPop] at ht1; exact ht1
   · rw [Sort.heapPop] at ht1
     refine Ok.cd (fun _ => ?_) (fun h => by have := dcF h; omega)
     have ek : ((k + 1 : Nat) : Int) - 1 = (k : Int) := by omega
     have ea : Ew ((a : Int) + (k : Int)) = ((a + k : Nat) : Int) := by rw [wrap64_in (by omega) (by omega)]; omega
     rw [ek, ea]
     clear ea
     refine Ok.gd (by rw [aJ]; exact decide_eq_true (by omega)) (Ok.gd (by rw [aJ]; exact decide_eq_true (by omega)) ?_)
     simp only [Int.toNat_natCast]
     rw [<- ie] at ht1
     refine Ok.bd (yU (d := (d1.set a (gt d1 ((a + k : Nat) : Int))).set (a + k) (gt d1 (a : Int))) (lo := 0) (hi := k) (F := a) (by simp; omega) (by simp; omega) (by omega) hn) ?_
     rintro r ⟨hr, he⟩
     rw [wrap64_in (by omega) (by omega)]
     rw [yM] at hr
     exact Ok.gd (decide_eq_true hr) (ih (r, (k : Int) - 1) ⟨k, rfl, by omega, by rw [hr]; exact hd1, by rw [he]; exact ht1⟩ (by first | omega | (dsimp only; omega)))
end
end Go.L

