import Derived.Test.YtiicieaabeamoaaGreatVerL55c
set_option linter.all false
namespace Go.L
open Go Go.Eng
theorem size_okR {n : Nat} (hn : 5000 ≤ n) {s : api_Survey} (ok : OkS s) {height ground : Int} (h1 : near height) (h2 : near ground) (hg : ¬ height ≤ ground) :
  Ok (fiduciallaw55_size n s height ground) fun v => R.Qx v.1 (Rat.divInt (s.Along * (height - ground)) s.Focal) 3 ∧ R.Qx v.2 (Rat.divInt (s.Across * (height - ground)) s.Focal) 3 := size_ok hn ok h1 h2 hg
def cntG (P : List api_Pix) (q F zx zy p p' : Int) : Int := ((P.countP fun t => nearG q F zx p t.X && nearG q F zy p' t.Y : Nat) : Int)
theorem seen_ok {n : Nat} (hn : 5000 ≤ n) {s : api_Survey} {f : api_Flight} {ground : Int} (ok : OkS s) (hsz : fsz f ≤ 1048576) (h1 : f.Strips.length ≤ 20) (h2 : (pts f).length ≤ 12) (hp : ∀ p ∈ pts f, near p.X ∧ near p.Y) (hh : near f.Height) (hg : near ground) (hlow : ¬ f.Height ≤ ground)
  {X Y : api_Rat} {p p' q : Int} (hX : R.Qx X (Rat.divInt p q) 3) (hY : R.Qx Y (Rat.divInt p' q) 3) (hq : 0 < q ∧ q ≤ 4194304) (b1 : -4398046511104 ≤ p ∧ p ≤ 4398046511104) (b2 : -4398046511104 ≤ p' ∧ p' ≤ 4398046511104) :
  fiduciallaw55_seen n s f ground (api_Place.mk X Y) = some (cntG (pts f) q s.Focal (s.Along * (f.Height - ground)) (s.Across * (f.Height - ground)) p p') := by
 have hf := ok.fo
 apply Ok.eq
 unfold fiduciallaw55_seen
 refine Ok.bd (size_okR hn ok hh hg hlow) fun w hw => Ok.bde (positions_v (by omega) hsz) ?_
 generalize s.Along * (f.Height - ground) = zx at *
 generalize s.Across * (f.Height - ground) = zy at *
 refine Ok.bd (R := fun o => o = cntG (pts f) q s.Focal zx zy p p') ?_ (fun o ho => ok_some.2 ho)
 generalize pts f = P at *
 refine ok_rangeR (len := P.length) (fun k (c : Int) => c = cntG (P.take k) q s.Focal zx zy p p') (by omega) (by omega) rfl ?_ ?_
 · rintro again k c hk rfl ih
   have step := ih _ rfl
   have hle : ((P.take k).countP fun t => nearG q s.Focal zx p t.X && nearG q s.Focal zy p' t.Y) ≤ 12 := Nat.le_trans List.countP_le_length (by rw [List.length_take]; omega)
   have hs : cntG (P.take (k + 1)) q s.Focal zx zy p p' = cntG (P.take k) q s.Focal zx zy p p' + if (nearG q s.Focal zx p (P.getD k default).X && nearG q s.Focal zy p' (P.getD k default).Y) = true then 1 else 0 := by
    unfold cntG
    rw [take_succ_getD hk, List.countP_append, List.countP_singleton]
    split <;> simp
   rw [hs] at step
   have hb : 0 ≤ cntG (P.take k) q s.Focal zx zy p p' ∧ cntG (P.take k) q s.Focal zx zy p p' ≤ 12 := by unfold cntG; omega
   generalize cntG (P.take k) q s.Focal zx zy p p' = c at *
   obtain ⟨n1, n2⟩ := hp _ (memG hk)
   unfold near at n1 n2
   refine Ok.cd (fun _ => Ok.gd (by rw [inR_nat]; simpa using hk) ?_) (fun h => by simp at h; omega)
   rw [gt_nat]
   dsimp only
   refine Ok.bde (nearG_ok hn hX hw.1 (by omega) hq b1 n1) (Ok.cd (fun k1 => Ok.bde (nearG_ok hn hY hw.2 (by omega) hq b2 n2) (Ok.cd (fun k2 => ?_) (fun k2 => ?_))) (fun k1 => ?_))
   · rw [k1, k2, Bool.true_and, if_pos rfl] at step
     rw [wrap64_in (n := c + 1) (by omega) (by omega)]; exact step
   · rw [k1, k2, Bool.and_false, if_neg (by decide), Int.add_zero] at step; exact step
   · rw [k1, Bool.false_and, if_neg (by decide), Int.add_zero] at step; exact step
 · rintro again c rfl
   exact Ok.cd (fun h => by simp at h) (fun _ => ok_some.2 (by rw [List.take_length]))
theorem nearG_B {F z m a : Int} (hF : 0 < F) : nearG (4 * F) F z m a = nearB (4 * F) z a m := by
 unfold nearG nearB
 rw [← Bool.decide_and, decide_eq_decide]
 generalize hD : m - a * (4 * F) = D
 have e1 : 2 * (D.natAbs : Int) * F = (D.natAbs : Int) * (2 * F) := by grind
 have e2 : z * (4 * F) = 2 * z * (2 * F) := by grind
 rw [e1, e2]
 constructor
 · intro h
   have := Int.le_of_mul_le_mul_right h (by omega)
   omega
 · intro h
   exact Int.mul_le_mul_of_nonneg_right (by omega) (by omega)
theorem cntG_B {P : List api_Pix} {F zx zy m m' : Int} (hF : 0 < F) : cntG P (4 * F) F zx zy m m' = cntP P (4 * F) zx zy m m' := by
 unfold cntG cntP
 congr 2
 funext t
 rw [nearG_B hF, nearG_B hF]
theorem bestR_le {cnt : Int → Int → Int} {m : Int} : ∀ (L : List Int) (c : Int × Int × Int), (bestR cnt m L c).1 ≤ c.1 ∧ ∀ m' ∈ L, (bestR cnt m L c).1 ≤ cnt m m'
 | [], c => ⟨Int.le_refl _, fun m' h => by cases h⟩
 | a :: L, c => by
  unfold bestR
  rw [List.foldl_cons]
  have h := bestR_le (cnt := cnt) (m := m) L (if cnt m a < c.1 then (cnt m a, m, a) else c)
  unfold bestR at h
  obtain ⟨h1, h2⟩ := h
  have hc : (if cnt m a < c.1 then (cnt m a, m, a) else c).1 ≤ c.1 ∧ (if cnt m a < c.1 then (cnt m a, m, a) else c).1 ≤ cnt m a := by
   split
   · dsimp only; omega
   · omega
  exact ⟨by omega, fun m' hm => by
   rcases List.mem_cons.1 hm with e | hm
   · rw [e]; omega
   · exact h2 m' hm⟩
theorem bestA_le {cnt : Int → Int → Int} {L' : List Int} : ∀ (L : List Int) (c : Int × Int × Int), (bestA cnt L L' c).1 ≤ c.1 ∧ ∀ m ∈ L, ∀ m' ∈ L', (bestA cnt L L' c).1 ≤ cnt m m'
 | [], c => ⟨Int.le_refl _, fun m h => by cases h⟩
 | a :: L, c => by
  unfold bestA
  rw [List.foldl_cons]
  have h := bestA_le (cnt := cnt) (L' := L') L (bestR cnt a L' c)
  unfold bestA at h
  obtain ⟨h1, h2⟩ := h
  obtain ⟨k1, k2⟩ := bestR_le (cnt := cnt) (m := a) L' c
  exact ⟨by omega, fun m hm m' hm' => by
   rcases List.mem_cons.1 hm with e | hm
   · rw [e]; have := k2 m' hm'; omega
   · exact h2 m hm m' hm'⟩
theorem zero_axM (N u z : Int) (xs : List Int) : 0 ∈ axM N u z xs := by
 unfold axM
 rw [mem_isrt, List.mem_append]
 left
 rw [(mk1_ok N u z xs).2]
 unfold mk0; simp
theorem cntP_in {P : List api_Pix} (hP : P.length ≤ 12) (u zx zy m m' : Int) : 0 ≤ cntP P u zx zy m m' ∧ cntP P u zx zy m m' ≤ 12 := by
 have : (P.countP fun p => nearB u zx p.X m && nearB u zy p.Y m') ≤ 12 := Nat.le_trans List.countP_le_length hP
 unfold cntP; omega
def zPl : api_Place := api_Place.mk zR zR
noncomputable def encB (u : Int) (b : Int × Int × Int) : Int × api_Place := if b.1 = 257 then (-1, zPl) else (b.1, api_Place.mk (rq u b.2.1) (rq u b.2.2))
def mk9 (c : Int × api_Place) : Int × Bool × List Int × Bool × List Int × Bool × List Int × Bool × List Int := (c.1, c.2.X.Num.Negative, c.2.X.Num.Groups, c.2.X.Den.Negative, c.2.X.Den.Groups, c.2.Y.Num.Negative, c.2.Y.Num.Groups, c.2.Y.Den.Negative, c.2.Y.Den.Groups)
def mk10 (c : Int × api_Place) (i : Int) : Int × Bool × List Int × Bool × List Int × Bool × List Int × Bool × List Int × Int := (c.1, c.2.X.Num.Negative, c.2.X.Num.Groups, c.2.X.Den.Negative, c.2.X.Den.Groups, c.2.Y.Num.Negative, c.2.Y.Num.Groups, c.2.Y.Den.Negative, c.2.Y.Den.Groups, i)
theorem encB_step {u : Int} {b : Int × Int × Int} {v m m' : Int} (hb : b.1 = 257 ∨ (0 ≤ b.1 ∧ b.1 ≤ 12)) (hv : 0 ≤ v ∧ v ≤ 12) :
  encB u (if v < b.1 then (v, m, m') else b) = if (encB u b).1 < 0 ∨ v < (encB u b).1 then (v, api_Place.mk (rq u m) (rq u m')) else encB u b := by
 unfold encB
 rcases hb with h | h
 · rw [if_pos h, if_pos (show v < b.1 by omega), if_neg (show ¬ v = 257 by omega), if_pos (show (-1 : Int) < 0 ∨ _ from .inl (by omega))]
 · rw [if_neg (by omega : ¬ b.1 = 257)]
   dsimp only
   by_cases k : v < b.1
   · rw [if_pos k, if_pos (show b.1 < 0 ∨ v < b.1 from .inr k), if_neg (show ¬ v = 257 by omega)]
   · rw [if_neg k, if_neg (by omega), if_neg (by omega)]
theorem bestR_in {cnt : Int → Int → Int} (hc : ∀ m m', 0 ≤ cnt m m' ∧ cnt m m' ≤ 12) {m : Int} {L : List Int} {c : Int × Int × Int} (h : c.1 = 257 ∨ (0 ≤ c.1 ∧ c.1 ≤ 12)) : (bestR cnt m L c).1 = 257 ∨ (0 ≤ (bestR cnt m L c).1 ∧ (bestR cnt m L c).1 ≤ 12) := by
 rcases bestR_or (cnt := cnt) (m := m) L c with e | ⟨m', _, e⟩
 · rw [e]; exact h
 · rw [e]; exact .inr (hc m m')
theorem bestA_in {cnt : Int → Int → Int} (hc : ∀ m m', 0 ≤ cnt m m' ∧ cnt m m' ≤ 12) {L L' : List Int} {c : Int × Int × Int} (h : c.1 = 257 ∨ (0 ≤ c.1 ∧ c.1 ≤ 12)) : (bestA cnt L L' c).1 = 257 ∨ (0 ≤ (bestA cnt L L' c).1 ∧ (bestA cnt L L' c).1 ≤ 12) := by
 rcases bestA_or (cnt := cnt) (L' := L') L c with e | ⟨m, m', _, _, e⟩
 · rw [e]; exact h
 · rw [e]; exact .inr (hc m m')
def bst (s : api_Survey) (f : api_Flight) (ground : Int) : Int × Int × Int :=
 bestA (cntP (pts f) (4 * s.Focal) (s.Along * (f.Height - ground)) (s.Across * (f.Height - ground))) (axM s.Width (4 * s.Focal) (s.Along * (f.Height - ground)) ((pts f).map (·.X))) (axM s.Height (4 * s.Focal) (s.Across * (f.Height - ground)) ((pts f).map (·.Y))) (257, 0, 0)
theorem axes {s : api_Survey} {f : api_Flight} {ground : Int} (ok : OkS s) (h2 : (pts f).length ≤ 12) (hp : ∀ p ∈ pts f, near p.X ∧ near p.Y) (hh : near f.Height) (hg : near ground) (hlow : ¬ f.Height ≤ ground) :
  AxIn s.Width s.Focal (s.Along * (f.Height - ground)) ((pts f).map (·.X)) ∧ AxIn s.Height s.Focal (s.Across * (f.Height - ground)) ((pts f).map (·.Y)) := by
 obtain ⟨_, b1, b2⟩ := rise_in ok hh hg hlow ok.al
 obtain ⟨_, b3, b4⟩ := rise_in ok hh hg hlow ok.ac
 exact ⟨⟨ok.w, ok.fo, by omega, by simpa using h2, fun x hx => by
  obtain ⟨p, hpp, rfl⟩ := List.mem_map.1 hx; exact (hp p hpp).1⟩, ⟨ok.h, ok.fo, by omega, by simpa using h2, fun x hx => by
  obtain ⟨p, hpp, rfl⟩ := List.mem_map.1 hx; exact (hp p hpp).2⟩⟩
theorem bst_lt {s : api_Survey} {f : api_Flight} {ground : Int} (h2 : (pts f).length ≤ 12) : (bst s f ground).1 ≠ 257 := by
 have h := (bestA_le (cnt := cntP (pts f) (4 * s.Focal) (s.Along * (f.Height - ground)) (s.Across * (f.Height - ground))) (L' := axM s.Height (4 * s.Focal) (s.Across * (f.Height - ground)) ((pts f).map (·.Y))) (axM s.Width (4 * s.Focal) (s.Along * (f.Height - ground)) ((pts f).map (·.X))) (257, 0, 0)).2 0 (zero_axM ..) 0 (zero_axM ..)
 have k := (cntP_in h2 (4 * s.Focal) (s.Along * (f.Height - ground)) (s.Across * (f.Height - ground)) 0 0).2
 unfold bst; omega
theorem rcover_ok {n : Nat} (hn : 5000 ≤ n) {s : api_Survey} {f : api_Flight} {ground : Int} (ok : OkS s) (hsz : fsz f ≤ 1048576) (h1 : f.Strips.length ≤ 20) (h2 : (pts f).length ≤ 12) (hp : ∀ p ∈ pts f, near p.X ∧ near p.Y) (hh : near f.Height) (hg : near ground) (hlow : ¬ f.Height ≤ ground) :
  fiduciallaw55_cover n s f ground = some ((bst s f ground).1, api_Place.mk (rq (4 * s.Focal) (bst s f ground).2.1) (rq (4 * s.Focal) (bst s f ground).2.2)) := by
 have hfo := ok.fo
 obtain ⟨axx, axy⟩ := axes ok h2 hp hh hg hlow
 have hbl := bst_lt (s := s) (ground := ground) h2
 have hseen : ∀ m m', 0 ≤ m ∧ m ≤ 4398046511104 → 0 ≤ m' ∧ m' ≤ 4398046511104 → fiduciallaw55_seen n s f ground (api_Place.mk (rq (4 * s.Focal) m) (rq (4 * s.Focal) m')) = some (cntP (pts f) (4 * s.Focal) (s.Along * (f.Height - ground)) (s.Across * (f.Height - ground)) m m') := fun m m' hm hm' => by
  rw [← cntG_B (by omega)]
  exact seen_ok hn ok hsz h1 h2 hp hh hg hlow (rq_ok (axx.fit (by omega) (by omega))) (rq_ok (axx.fit (by omega) (by omega))) (by omega) (by omega) (by omega)
 apply Ok.eq
 unfold fiduciallaw55_cover
 refine Ok.bd (size_okR hn ok hh hg hlow) fun w hw => Ok.bde (positions_v (by omega) hsz) ?_
 have hcnt := cntP_in h2 (4 * s.Focal) (s.Along * (f.Height - ground)) (s.Across * (f.Height - ground))
 have hbst : bst s f ground = bestA (cntP (pts f) (4 * s.Focal) (s.Along * (f.Height - ground)) (s.Across * (f.Height - ground))) (axM s.Width (4 * s.Focal) (s.Along * (f.Height - ground)) ((pts f).map (·.X))) (axM s.Height (4 * s.Focal) (s.Across * (f.Height - ground)) ((pts f).map (·.Y))) (257, 0, 0) := rfl
 generalize bst s f ground = B at *
 generalize s.Along * (f.Height - ground) = zx at *
 generalize s.Across * (f.Height - ground) = zy at *
 generalize hPP : pts f = P at *
 refine Ok.bd (R := fun o => o = (P.map (·.X), P.map (·.Y))) ?_ ?_
 · refine ok_rangeG (σ := List Int × List Int × Int) (fun (c : List Int × List Int) x => (c.1, c.2, x)) (len := P.length) (fun k (c : List Int × List Int) => c = ((P.take k).map (·.X), (P.take k).map (·.Y))) (by omega) (by omega) (c0 := ([], [])) rfl ?_ ?_
   · rintro again k c hk rfl ih
     dsimp only
     have lk : (P.take k).length ≤ 12 := by rw [List.length_take]; omega
     refine Ok.cd (fun _ => Ok.gd (by rw [inR_nat]; simpa using hk) ?_) (fun h => by simp at h; omega)
     rw [gt_nat, List.length_map, List.length_map]
     refine Ok.gd (decide_eq_true (by omega)) (Ok.gd (decide_eq_true (by omega)) (Ok.gd (decide_eq_true (by omega)) (Ok.gd (decide_eq_true (by omega)) ?_)))
     have q := ih ((P.take (k + 1)).map (·.X), (P.take (k + 1)).map (·.Y)) rfl
     rw [take_succ_getD hk, List.map_append, List.map_append] at q
     exact q
   · rintro again c rfl
     exact Ok.cd (fun h => by simp at h) (fun _ => ok_some.2 (by rw [List.take_length]))
 · rintro o rfl
   dsimp only
   refine Ok.bde (cand_ok hn axx hw.1) ?_
   have hcy := cand_ok hn axy hw.2
   have lx := axM_len s.Width (4 * s.Focal) zx (P.map (·.X))
   have ly := axM_len s.Height (4 * s.Focal) zy (P.map (·.Y))
   rw [List.length_map] at lx ly
   have ix := axM_in axx
   have iy := axM_in axy
   have nx := axx.nu; have ny := axy.nu
   generalize axM s.Width (4 * s.Focal) zx (P.map (·.X)) = L at *
   generalize axM s.Height (4 * s.Focal) zy (P.map (·.Y)) = L' at *
   generalize 4 * s.Focal = u at *
   have hin0 : ((257 : Int), (0 : Int), (0 : Int)).1 = 257 ∨ (0 ≤ ((257 : Int), (0 : Int), (0 : Int)).1 ∧ ((257 : Int), (0 : Int), (0 : Int)).1 ≤ 12) := .inl rfl
   refine Ok.bd (R := fun o => o = mk9 (encB u (bestA (cntP P u zx zy) L L' (257, 0, 0)))) ?_ ?_
   · refine ok_rangeG (σ := Int × Bool × List Int × Bool × List Int × Bool × List Int × Bool × List Int × Int) mk10 (len := L.length) (fun k (c : Int × api_Place) => c = encB u (bestA (cntP P u zx zy) (L.take k) L' (257, 0, 0))) (by omega) (by omega) (c0 := (-1, zPl)) (by show _ = encB u (257, 0, 0); unfold encB; rw [if_pos rfl]) ?_ ?_
     · rintro again k c hk rfl ih
       unfold mk10
       dsimp only
       rw [List.length_map]
       refine Ok.cd (fun _ => Ok.gd (by rw [inR_nat]; simpa using hk) ?_) (fun h => by simp at h; omega)
       refine Ok.bde hcy ?_
       have hs : bestA (cntP P u zx zy) (L.take (k + 1)) L' (257, 0, 0) = bestR (cntP P u zx zy) (L.getD k default) L' (bestA (cntP P u zx zy) (L.take k) L' (257, 0, 0)) := by
        unfold bestA; rw [take_succ_getD hk, List.foldl_append]; rfl
       have hb0 := bestA_in hcnt (L := L.take k) (L' := L') hin0
       have q := ih _ (congrArg (encB u) hs).symm
       generalize bestA (cntP P u zx zy) (L.take k) L' (257, 0, 0) = c0 at *
       have hmk := ix _ (memAt hk)
       rw [gt_nat, map_at55 hk]
       generalize hM : L.getD k default = M at *
       refine Ok.bd (R := fun o => o = mk9 (encB u (bestR (cntP P u zx zy) M L' c0))) ?_ (fun o ho => by subst ho; exact q)
       refine ok_rangeG (σ := Int × Bool × List Int × Bool × List Int × Bool × List Int × Bool × List Int × Int) mk10 (len := L'.length) (fun j (c : Int × api_Place) => c = encB u (bestR (cntP P u zx zy) M (L'.take j) c0)) (by omega) (by omega) (c0 := encB u c0) rfl ?_ ?_
       · rintro again2 j c hj rfl ih2
         unfold mk10
         dsimp only
         rw [List.length_map]
         refine Ok.cd (fun _ => Ok.gd (by rw [inR_nat]; simpa using hj) ?_) (fun h => by simp at h; omega)
         have hmj := iy _ (memAt hj)
         rw [gt_nat, map_at55 hj]
         generalize hM' : L'.getD j default = M' at *
         have hs2 : bestR (cntP P u zx zy) M (L'.take (j + 1)) c0 = (if cntP P u zx zy M M' < (bestR (cntP P u zx zy) M (L'.take j) c0).1 then (cntP P u zx zy M M', M, M') else bestR (cntP P u zx zy) M (L'.take j) c0) := by
          unfold bestR; rw [take_succ_getD hj, List.foldl_append, ← hM']; rfl
         have hb1 := bestR_in hcnt (m := M) (L := L'.take j) hb0
         have q2 := ih2 _ (congrArg (encB u) hs2).symm
         generalize bestR (cntP P u zx zy) M (L'.take j) c0 = c1 at *
         rw [encB_step hb1 (hcnt M M')] at q2
         refine Ok.bde (hseen M M' (by omega) (by omega)) ?_
         refine Ok.cd (fun h => ?_) (fun h => ?_)
         · rw [if_pos (.inl (of_decide_eq_true h))] at q2; exact q2
         · have h := of_decide_eq_false h
           refine Ok.cd (fun h2 => ?_) (fun h2 => ?_)
           · rw [if_pos (.inr (of_decide_eq_true h2))] at q2; exact q2
           · rw [if_neg (by rintro (e | e); exact h e; exact of_decide_eq_false h2 e)] at q2; exact q2
       · rintro again2 c rfl
         unfold mk10
         dsimp only
         rw [List.length_map]
         refine Ok.cd (fun h => by simp at h) (fun _ => ok_some.2 ?_)
         rw [show L'.take L'.length = L' from List.take_length]; rfl
     · rintro again c rfl
       unfold mk10
       dsimp only
       rw [List.length_map]
       refine Ok.cd (fun h => by simp at h) (fun _ => ok_some.2 ?_)
       rw [show L.take L.length = L from List.take_length]; rfl
   · rintro o rfl
     rw [← hbst]
     unfold encB mk9
     rw [if_neg hbl]
     exact ok_some.2 rfl
theorem rcode_zero {s : api_Survey} {f : api_Flight} {ground : Int} (h : rcode s f ground = 0) : chk s = 0 ∧ near f.Height ∧ (∀ p ∈ pts f, near p.X ∧ near p.Y) ∧ near ground ∧ ¬ f.Height ≤ ground := by
 unfold rcode at h
 have c1 : chk s = 0 := by
  by_cases k : chk s = 0
  · exact k
  · rw [if_pos k] at h; exact absurd h k
 rw [if_neg (by simpa using c1)] at h
 have c2 : fcode f = 0 := by
  by_cases k : fcode f = 0
  · exact k
  · rw [if_pos k] at h; exact absurd h k
 rw [if_neg (by simpa using c2)] at h
 have c3 : far ground = false := by
  cases k : far ground with
  | false => rfl
  | true => rw [if_pos k] at h; cases h
 rw [if_neg (by rw [c3]; decide)] at h
 have c5 : ¬ f.Height ≤ ground := fun k => by rw [if_pos k] at h; cases h
 have c6 : (far f.Height || (pts f).any badP) = false := by
  cases k : (far f.Height || (pts f).any badP) with
  | false => rfl
  | true => unfold fcode at c2; rw [if_pos k] at c2; cases c2
 rw [Bool.or_eq_false_iff] at c6
 refine ⟨c1, far_f.1 c6.1, fun p hp => ?_, far_f.1 c3, c5⟩
 have := List.any_eq_false.1 c6.2 p hp
 unfold badP at this
 simp only [Bool.or_eq_true, not_or, Bool.not_eq_true] at this
 exact ⟨far_f.1 this.1, far_f.1 this.2⟩
end Go.L


set_option linter.all false
namespace Go.L
open Go Go.Eng
theorem first_ge {C : List Int} {t q : Int} (n : Nat) : n < C.length → t ≤ C.getD n default * q → ∃ j, j < C.length ∧ t ≤ C.getD j default * q ∧ ∀ i, i < j → C.getD i default * q < t := by
 induction n using Nat.strongRecOn with
 | ind n ih =>
  intro hn h
  by_cases k : ∃ i, i < n ∧ t ≤ C.getD i default * q
  · obtain ⟨i, hi, hk⟩ := k
    exact ih i hi (by omega) hk
  · exact ⟨n, hn, h, fun i hi => by
     have : ¬ t ≤ C.getD i default * q := fun e => k ⟨i, hi, e⟩
     omega⟩
theorem mark_of {N F z : Int} {xs : List Int} (h : AxIn N F z xs) {p q : Int} (hq : 0 < q) (h0 : 0 ≤ p) (h1 : p ≤ N * q) : ∃ m, m ∈ axM N (4 * F) z xs ∧ ∀ z', z ≤ z' → ∀ x ∈ xs, nearB (4 * F) z x m = true → nearG q F z' p x = true := by
 have hF := h.f; have hnu := h.nu
 obtain ⟨pw, mem⟩ := mk1_ok N (4 * F) z xs
 have m0 : 0 ∈ mk1 N (4 * F) z xs := (mem 0).2 (by unfold mk0; simp)
 have mN : N * (4 * F) ∈ mk1 N (4 * F) z xs := (mem _).2 (by unfold mk0; simp)
 have lift : ∀ m, m ∈ mk1 N (4 * F) z xs → m ∈ axM N (4 * F) z xs := fun m hm => by unfold axM; rw [mem_isrt]; exact List.mem_append_left _ hm
 have liftm : ∀ m, m ∈ midsZ (mk1 N (4 * F) z xs) → m ∈ axM N (4 * F) z xs := fun m hm => by unfold axM; rw [mem_isrt]; exact List.mem_append_right _ hm
 have thr : ∀ x ∈ xs, ∀ b, (b = x * (4 * F) - 2 * z ∨ b = x * (4 * F) + 2 * z) → 0 < b → b < N * (4 * F) → b ∈ mk1 N (4 * F) z xs := fun x hx b hb b0 b1 => (mem b).2 (by
  unfold mk0
  refine List.mem_append_right _ (List.mem_flatMap.2 ⟨x, hx, List.mem_filter.2 ⟨?_, ?_⟩⟩)
  · unfold bnd; rcases hb with e | e <;> simp [e]
  · unfold fltB; rw [decide_eq_true b0, decide_eq_true b1]; rfl)
 have even : ∀ m, m ∈ mk1 N (4 * F) z xs → ∃ e, m = 2 * e := fun m hm => mk0_even ((mem m).1 hm)
 have bd : ∀ m, m ∈ mk1 N (4 * F) z xs → 0 ≤ m ∧ m ≤ N * (4 * F) := fun m hm => mk0_in (by omega) ((mem m).1 hm)
 have test : ∀ x z', z ≤ z' → (x * (4 * F) - 2 * z) * q ≤ p * (4 * F) → p * (4 * F) ≤ (x * (4 * F) + 2 * z) * q → nearG q F z' p x = true := by
  intro x z' hz h1 h2
  unfold nearG
  apply decide_eq_true
  have hzq : z * q ≤ z' * q := Int.mul_le_mul_of_nonneg_right hz (by omega)
  have e1 : (x * (4 * F) - 2 * z) * q = 4 * (x * q * F) - 2 * (z * q) := by grind
  have e2 : (x * (4 * F) + 2 * z) * q = 4 * (x * q * F) + 2 * (z * q) := by grind
  have e3 : p * (4 * F) = 4 * (p * F) := by grind
  rcases Int.le_total 0 (p - x * q) with k | k
  · have e : ((p - x * q).natAbs : Int) = p - x * q := by omega
    rw [e]
    have e4 : 2 * (p - x * q) * F = 2 * (p * F) - 2 * (x * q * F) := by grind
    omega
  · have e : ((p - x * q).natAbs : Int) = -(p - x * q) := by omega
    rw [e]
    have e4 : 2 * -(p - x * q) * F = 2 * (x * q * F) - 2 * (p * F) := by grind
    omega
 have nb : ∀ {x m : Int}, nearB (4 * F) z x m = true → x * (4 * F) - 2 * z ≤ m ∧ m ≤ x * (4 * F) + 2 * z := by
  intro x m hb
  unfold nearB at hb
  rw [Bool.and_eq_true] at hb
  have a := of_decide_eq_true hb.1; have b := of_decide_eq_true hb.2
  omega
 have hmul : ∀ {a b : Int}, a ≤ b → a * q ≤ b * q := fun hab => Int.mul_le_mul_of_nonneg_right hab (by omega)
 have hlt : ∀ {a b : Int}, a * q < b * q → a < b := fun hab => Int.lt_of_mul_lt_mul_right hab (by omega)
 have onmark : ∀ m, m ∈ mk1 N (4 * F) z xs → m * q = p * (4 * F) → ∃ m, m ∈ axM N (4 * F) z xs ∧ ∀ z', z ≤ z' → ∀ x ∈ xs, nearB (4 * F) z x m = true → nearG q F z' p x = true := fun m hm e => ⟨m, lift m hm, fun z' hz x hx hb => by
  obtain ⟨b1, b2⟩ := nb hb
  have c1 := hmul b1; have c2 := hmul b2
  exact test x z' hz (by omega) (by omega)⟩
 have mono : ∀ i j, i ≤ j → j < (mk1 N (4 * F) z xs).length → (mk1 N (4 * F) z xs).getD i default ≤ (mk1 N (4 * F) z xs).getD j default := fun i j hij hj => by
  rcases Nat.eq_or_lt_of_le hij with e | k
  · subst e; exact Int.le_refl _
  · exact pwAt (pw.imp fun h => by omega) i j k hj
 obtain ⟨iN, hiN, eN⟩ := atMem mN
 have t1 : p * (4 * F) ≤ N * (4 * F) * q := by
  have := Int.mul_le_mul_of_nonneg_right h1 (show 0 ≤ 4 * F by omega)
  have e : N * q * (4 * F) = N * (4 * F) * q := by grind
  omega
 obtain ⟨j, hj, hge, hbelow⟩ := first_ge (C := mk1 N (4 * F) z xs) (t := p * (4 * F)) (q := q) iN hiN (by rw [eN]; exact t1)
 have mj := memAt hj
 by_cases e : (mk1 N (4 * F) z xs).getD j default * q = p * (4 * F)
 · exact onmark _ mj e
 have hj0 : 0 < j := by
  rcases Nat.eq_zero_or_pos j with k | k
  · subst k
    obtain ⟨i0, hi0, e0⟩ := atMem m0
    have := mono 0 i0 (by omega) hi0
    rw [e0] at this
    have := hmul this
    have t0 : 0 ≤ p * (4 * F) := Int.mul_nonneg h0 (by omega)
    omega
  · exact k
 have hb := hbelow (j - 1) (by omega)
 have mj1 := memAt (l := mk1 N (4 * F) z xs) (k := j - 1) (by omega)
 have gap : ∀ b, b ∈ mk1 N (4 * F) z xs → b ≤ (mk1 N (4 * F) z xs).getD (j - 1) default ∨ (mk1 N (4 * F) z xs).getD j default ≤ b := by
  intro b hbm
  obtain ⟨i, hi, eb⟩ := atMem hbm
  rcases Nat.lt_or_ge i j with k | k
  · left; rw [← eb]; exact mono i (j - 1) (by omega) (by omega)
  · right; rw [← eb]; exact mono j i k hi
 have mid : ((mk1 N (4 * F) z xs).getD (j - 1) default + (mk1 N (4 * F) z xs).getD j default) / 2 ∈ midsZ (mk1 N (4 * F) z xs) := by
  have := memAt (l := midsZ (mk1 N (4 * F) z xs)) (k := j - 1) (by rw [mids_len]; omega)
  rw [mids_at (by omega), show j - 1 + 1 = j by omega] at this
  exact this
 refine ⟨_, liftm _ mid, ?_⟩
 obtain ⟨a, ea⟩ := even _ mj1
 obtain ⟨b, eb⟩ := even _ mj
 have bA := bd _ mj1; have bB := bd _ mj
 generalize (mk1 N (4 * F) z xs).getD (j - 1) default = A at *
 generalize (mk1 N (4 * F) z xs).getD j default = B at *
 have hAB : A < B := hlt (show A * q < B * q by omega)
 intro z' hz x hx hn
 obtain ⟨b1, b2⟩ := nb hn
 have em : (A + B) / 2 = a + b := by omega
 rw [em] at b1 b2
 refine test x z' hz ?_ ?_
 · by_cases k : x * (4 * F) - 2 * z ≤ A
   · have := hmul k; omega
   · rcases gap _ (thr x hx _ (.inl rfl) (by omega) (by omega)) with g | g <;> omega
 · by_cases k : B ≤ x * (4 * F) + 2 * z
   · have := hmul k; omega
   · rcases gap _ (thr x hx _ (.inr rfl) (by omega) (by omega)) with g | g <;> omega
theorem cntP_le_G {P : List api_Pix} {u zx zy m m' q F z1 z2 p p' : Int} (hx : ∀ x ∈ P.map (·.X), nearB u zx x m = true → nearG q F z1 p x = true) (hy : ∀ y ∈ P.map (·.Y), nearB u zy y m' = true → nearG q F z2 p' y = true) : cntP P u zx zy m m' ≤ cntG P q F z1 z2 p p' := by
 unfold cntP cntG
 have := List.countP_mono_left (l := P) (p := fun t => nearB u zx t.X m && nearB u zy t.Y m') (q := fun t => nearG q F z1 p t.X && nearG q F z2 p' t.Y) fun t ht hb => by
  rw [Bool.and_eq_true] at hb ⊢
  exact ⟨hx _ (List.mem_map_of_mem ht) hb.1, hy _ (List.mem_map_of_mem ht) hb.2⟩
 omega
end Go.L

