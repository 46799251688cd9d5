import Derived.Test.YtndmnfmpbcecaaaRenL26e
set_option linter.all false
namespace Go.L
open Go Go.Eng
theorem u8_of {a : Int} (h : (Lit.int .u8 a).wf = true) : 0 ≤ a ∧ a ≤ 255 := by
 simp [Lit.wf, IntKind.min, IntKind.max, IntKind.signed, IntKind.bits] at h
 exact h
theorem codeT_ok {l : Tis} : codeT l = 0 ↔ l.length ≤ 256 ∧ ∀ t ∈ l, okT t := by
 unfold codeT
 split
 · exact ⟨fun h => (by cases h), fun h => by omega⟩
 · rw [codeL_ok]; exact ⟨fun h => ⟨by omega, h⟩, fun h => h.2⟩
section
variable (p q : Int)
def mv (m : api_Mark) : api_Mark := ⟨3 * m.Image + p, 2 * m.Feature + q⟩
def mvT (t : api_Tie) : api_Tie := ⟨mv p q t.A, mv p q t.B, t.Cost⟩
theorem mv_inj {m m' : api_Mark} (h : mv p q m = mv p q m') : m = m' := by
 obtain ⟨a, b⟩ := m
 obtain ⟨c, d⟩ := m'
 simp only [mv, api_Mark.mk.injEq] at h
 obtain ⟨h1, h2⟩ := h
 rw [show a = c by omega, show b = d by omega]
theorem mv_img {m m' : api_Mark} : (mv p q m).Image = (mv p q m').Image ↔ m.Image = m'.Image := by
 simp only [mv]; omega
def okS (m : api_Mark) : Prop := (0 ≤ m.Image ∧ m.Image ≤ 15) ∧ 0 ≤ m.Feature ∧ m.Feature ≤ 1000
variable {p q} (hp : 0 ≤ p ∧ p ≤ 15) (hq : 0 ≤ q ∧ q ≤ 255)
include hp hq
theorem mv_ok {m : api_Mark} (h : okS m) : okM (mv p q m) := by
 simp only [okS, okM, mv] at *; omega
theorem mv_lt {m m' : api_Mark} (h : okS m) (h' : okS m') : kM (mv p q m) < kM (mv p q m') ↔ kM m < kM m' := by
 simp only [okS, kM, mv] at *; omega
theorem mv_le {m m' : api_Mark} (h : okS m) (h' : okS m') : kM (mv p q m) = kM (mv p q m') ↔ kM m = kM m' := by
 simp only [okS, kM, mv] at *; omega
theorem kM_s {m : api_Mark} (h : okS m) : okM m := by simp only [okS, okM] at *; omega
theorem mvT_lt {t t' : api_Tie} (h : okS t.A ∧ okS t.B) (h' : okS t'.A ∧ okS t'.B) (g : kT t < kT t') : kT (mvT p q t) < kT (mvT p q t') := by
 have a1 := kM_range (kM_s hp hq h.1)
 have a2 := kM_range (kM_s hp hq h.2)
 have a3 := kM_range (kM_s hp hq h'.1)
 have a4 := kM_range (kM_s hp hq h'.2)
 have b1 := kM_range (mv_ok hp hq h.1)
 have b2 := kM_range (mv_ok hp hq h.2)
 have b3 := kM_range (mv_ok hp hq h'.1)
 have b4 := kM_range (mv_ok hp hq h'.2)
 have e1 := mv_lt hp hq h.1 h'.1
 have e2 := mv_le hp hq h.1 h'.1
 have e3 := mv_lt hp hq h.2 h'.2
 simp only [kT, mvT] at *
 generalize kM t.A = A at *
 generalize kM t.B = B at *
 generalize kM t'.A = C at *
 generalize kM t'.B = D at *
 generalize kM (mv p q t.A) = A' at *
 generalize kM (mv p q t.B) = B' at *
 generalize kM (mv p q t'.A) = C' at *
 generalize kM (mv p q t'.B) = D' at *
 rcases Int.lt_trichotomy t.Cost t'.Cost with h | h | h
 · omega
 · rcases Int.lt_trichotomy A C with g2 | g2 | g2
   · have := e1.2 g2; omega
   · have := e2.2 g2
     have := e3.2 (by omega); omega
   · omega
 · omega
omit hp hq
variable (p q)
def Mv (E : RelM) : RelM := fun x y => x = y ∨ ∃ m m', x = mv p q m ∧ y = mv p q m' ∧ E m m'
variable {p q}
theorem Mv_at {E : RelM} (hE : Eqv E) {m : api_Mark} {y : api_Mark} : Mv p q E (mv p q m) y ↔ ∃ m', y = mv p q m' ∧ E m m' := by
 constructor
 · rintro (rfl | ⟨a, b, h1, h2, h3⟩)
   · exact ⟨m, rfl, hE.refl _⟩
   · rw [mv_inj p q h1]; exact ⟨b, h2, h3⟩
 · rintro ⟨m', rfl, h⟩
   exact .inr ⟨m, m', rfl, rfl, h⟩
theorem Mv_ta {E : RelM} (hE : Eqv E) {m : api_Mark} {x : api_Mark} : Mv p q E x (mv p q m) ↔ ∃ m', x = mv p q m' ∧ E m' m := by
 constructor
 · rintro (rfl | ⟨a, b, h1, h2, h3⟩)
   · exact ⟨m, rfl, hE.refl _⟩
   · rw [mv_inj p q h2]; exact ⟨a, h1, h3⟩
 · rintro ⟨m', rfl, h⟩
   exact .inr ⟨m', m, rfl, rfl, h⟩
theorem Mv_iff {E : RelM} (hE : Eqv E) {m m' : api_Mark} : Mv p q E (mv p q m) (mv p q m') ↔ E m m' := by
 rw [Mv_at hE]
 exact ⟨fun ⟨a, h1, h2⟩ => by rw [mv_inj p q h1]; exact h2, fun h => ⟨m', rfl, h⟩⟩
theorem Mv_clash {E : RelM} (hE : Eqv E) {a b : api_Mark} : clash (Mv p q E) (mv p q a) (mv p q b) ↔ clash E a b := by
 constructor
 · rintro ⟨x, y, h1, h2, h3⟩
   obtain ⟨m, rfl, k1⟩ := (Mv_at hE).1 h1
   obtain ⟨m', rfl, k2⟩ := (Mv_at hE).1 h2
   exact ⟨m, m', k1, k2, (mv_img p q).1 h3⟩
 · rintro ⟨m, m', h1, h2, h3⟩
   exact ⟨mv p q m, mv p q m', (Mv_iff hE).2 h1, (Mv_iff hE).2 h2, (mv_img p q).2 h3⟩
theorem Mv_stp {E : RelM} (hE : Eqv E) (t : api_Tie) : stp26 (Mv p q E) (mvT p q t) = Mv p q (stp26 E t) := by
 funext x y
 apply propext
 have hc : clash (Mv p q E) (mvT p q t).A (mvT p q t).B ↔ clash E t.A t.B := Mv_clash hE
 constructor
 · rintro (h | ⟨nc, ⟨h1, h2⟩ | ⟨h1, h2⟩⟩)
   · rcases h with h | ⟨m, m', h1, h2, h3⟩
     · exact .inl h
     · exact .inr ⟨m, m', h1, h2, .inl h3⟩
   · obtain ⟨m, rfl, k1⟩ := (Mv_ta hE).1 h1
     obtain ⟨m', rfl, k2⟩ := (Mv_ta hE).1 h2
     exact .inr ⟨m, m', rfl, rfl, .inr ⟨fun c => nc (hc.2 c), .inl ⟨k1, k2⟩⟩⟩
   · obtain ⟨m, rfl, k1⟩ := (Mv_ta hE).1 h1
     obtain ⟨m', rfl, k2⟩ := (Mv_ta hE).1 h2
     exact .inr ⟨m, m', rfl, rfl, .inr ⟨fun c => nc (hc.2 c), .inr ⟨k1, k2⟩⟩⟩
 · rintro (h | ⟨m, m', rfl, rfl, h⟩)
   · exact .inl (.inl h)
   · rcases h with h | ⟨nc, ⟨h1, h2⟩ | ⟨h1, h2⟩⟩
     · exact .inl (.inr ⟨m, m', rfl, rfl, h⟩)
     · exact .inr ⟨fun c => nc (hc.1 c), .inl ⟨(Mv_iff hE).2 h1, (Mv_iff hE).2 h2⟩⟩
     · exact .inr ⟨fun c => nc (hc.1 c), .inr ⟨(Mv_iff hE).2 h1, (Mv_iff hE).2 h2⟩⟩
theorem Mv_fold : ∀ {L : Tis} {E : RelM}, Eqv E → (L.map (mvT p q)).foldl stp26 (Mv p q E) = Mv p q (L.foldl stp26 E)
 | [], _, _ => rfl
 | t :: L, E, hE => by
  rw [List.map_cons, List.foldl_cons, List.foldl_cons, Mv_stp hE]
  exact Mv_fold (hE.stp t)
theorem Mv_rel {S : Tis} : rel26 (S.map (mvT p q)) = Mv p q (rel26 S) := by
 have e : (Eq : RelM) = Mv p q Eq := by
  funext x y
  apply propext
  constructor
  · exact .inl
  · rintro (h | ⟨m, m', h1, h2, h3⟩)
    · exact h
    · rw [h1, h2, h3]
 unfold rel26
 conv => lhs; rw [e]
 exact Mv_fold Eqv.eq
theorem Mv_marks {S : Tis} {x : api_Mark} : marks26 (S.map (mvT p q)) x ↔ ∃ m, marks26 S m ∧ x = mv p q m := by
 constructor
 · rintro ⟨t, ht, h⟩
   obtain ⟨u, hu, rfl⟩ := List.mem_map.1 ht
   rcases h with h | h
   · exact ⟨u.A, ⟨u, hu, .inl rfl⟩, h⟩
   · exact ⟨u.B, ⟨u, hu, .inr rfl⟩, h⟩
 · rintro ⟨m, ⟨t, ht, h⟩, rfl⟩
   refine ⟨mvT p q t, List.mem_map.2 ⟨t, ht, rfl⟩, ?_⟩
   rcases h with h | h
   · rw [h]; exact .inl rfl
   · rw [h]; exact .inr rfl
include hp hq
theorem canon_mv {S : Tis} {ts : List Mks} (hs : ∀ m, marks26 S m → okS m) (hC : Canon (rel26 S) (marks26 S) ts) : Canon (rel26 (S.map (mvT p q))) (marks26 (S.map (mvT p q))) (ts.map (List.map (mv p q))) := by
 have hE := rel26_eqv S
 rw [Mv_rel]
 have hd : ∀ t ∈ ts, hd26 (t.map (mv p q)) = mv p q (hd26 t) := fun t ht => by
  have := hC.two t ht
  match t, this with
  | a :: b :: t, _ => rfl
 have hn : ∀ t ∈ ts, t ≠ [] := fun t ht e => by have := hC.two t ht; rw [e] at this; simp at this
 refine ⟨fun u hu => ?_, fun u hu => ?_, fun u hu m hm => ?_, fun u hu m hm m' hm' => ?_, fun x y vx vy hne hr => ?_, ?_⟩
 · obtain ⟨t, ht, rfl⟩ := List.mem_map.1 hu
   rw [List.length_map]; exact hC.two t ht
 · obtain ⟨t, ht, rfl⟩ := List.mem_map.1 hu
   rw [List.pairwise_map]
   exact (hC.srt t ht).imp_of_mem fun ha hb h => (mv_lt hp hq (hs _ (hC.val t ht _ ha)) (hs _ (hC.val t ht _ hb))).2 h
 · obtain ⟨t, ht, rfl⟩ := List.mem_map.1 hu
   obtain ⟨a, ha, rfl⟩ := List.mem_map.1 hm
   exact Mv_marks.2 ⟨a, hC.val t ht a ha, rfl⟩
 · obtain ⟨t, ht, rfl⟩ := List.mem_map.1 hu
   obtain ⟨a, ha, rfl⟩ := List.mem_map.1 hm
   obtain ⟨b, hb, rfl⟩ := List.mem_map.1 hm'
   exact (Mv_iff hE).2 (hC.rel t ht a ha b hb)
 · obtain ⟨a, va, rfl⟩ := Mv_marks.1 vx
   obtain ⟨b, vb, rfl⟩ := Mv_marks.1 vy
   obtain ⟨t, ht, h1, h2⟩ := hC.all a b va vb (fun e => hne (by rw [e])) ((Mv_iff hE).1 hr)
   exact ⟨_, List.mem_map.2 ⟨t, ht, rfl⟩, List.mem_map.2 ⟨a, h1, rfl⟩, List.mem_map.2 ⟨b, h2, rfl⟩⟩
 · rw [List.pairwise_map]
   refine hC.ord.imp_of_mem fun {t u} ht hu h => ⟨?_, fun x hx y hy hr => ?_⟩
   · rw [hd t ht, hd u hu]
     exact (mv_lt hp hq (hs _ (hC.val t ht _ (hd_mem (hn t ht)))) (hs _ (hC.val u hu _ (hd_mem (hn u hu))))).2 h.1
   · obtain ⟨a, ha, rfl⟩ := List.mem_map.1 hx
     obtain ⟨b, hb, rfl⟩ := List.mem_map.1 hy
     exact h.2 a ha b hb ((Mv_iff hE).1 hr)
theorem ordT_mv {l : Tis} (hv : ∀ t ∈ l, okT t) (hs : ∀ t ∈ l, okS t.A ∧ okS t.B) (hv' : ∀ t ∈ l.map (mvT p q), okT t) : ordT (l.map (mvT p q)) = (ordT l).map (mvT p q) := by
 obtain ⟨a1, a2, _⟩ := ordT_ok hv
 obtain ⟨b1, b2, _⟩ := ordT_ok hv'
 refine pw_unique b1 ?_ fun t => ?_
 · rw [List.pairwise_map]
   exact a1.imp_of_mem fun ha hb h => mvT_lt hp hq (hs _ ((a2 _).1 ha)) (hs _ ((a2 _).1 hb)) h
 · rw [b2, List.mem_map, List.mem_map]
   exact ⟨fun ⟨u, hu, e⟩ => ⟨u, (a2 u).2 hu, e⟩, fun ⟨u, hu, e⟩ => ⟨u, (a2 u).1 hu, e⟩⟩
end
theorem big_v {n : Nat} {l : Tis} (hn : l.length < n) (hl : l.length ≤ 1000000) : slices_ContainsFunc_fiducial_api_Tie_fiducial_api_Tie_of_fiduciallaw26_TrackRenumbered_1 n l = some (l.any fun t => decide (mx t.A.Image t.B.Image > 15) || decide (mx t.A.Feature t.B.Feature > 1000)) := by
 unfold slices_ContainsFunc_fiducial_api_Tie_fiducial_api_Tie_of_fiduciallaw26_TrackRenumbered_1 slices_IndexFunc_fiducial_api_Tie_fiducial_api_Tie_of_fiduciallaw26_TrackRenumbered_1
 have := loop_index (p := fun t : api_Tie => decide (mx t.A.Image t.B.Image > 15) || decide (mx t.A.Feature t.B.Feature > 1000)) (s := l) (n := n) hn (by omega)
 have e : fiduciallaw26_TrackRenumbered_1 n = fun t => some (decide (mx t.A.Image t.B.Image > 15) || decide (mx t.A.Feature t.B.Feature > 1000)) := by
  funext t
  unfold fiduciallaw26_TrackRenumbered_1
  cases decide (mx t.A.Image t.B.Image > 15) <;> rfl
 rw [e]
 refine (congrArg (fun o => bdO o fun v1 => some (decide (v1 ≥ 0))) this).trans ?_
 show some (decide (idxB (fun t : api_Tie => decide (mx t.A.Image t.B.Image > 15) || decide (mx t.A.Feature t.B.Feature > 1000)) l ≥ 0)) = _
 rw [idxB_ge]
theorem mv_v {n : Nat} {m : api_Mark} {x y : Int} (hx : 0 ≤ x ∧ x ≤ 255) (hy : 0 ≤ y ∧ y ≤ 255) (hm : okS m) : fiduciallaw26_TrackRenumbered_2 n m x y = some (mv (x % 16) y m) := by
 unfold fiduciallaw26_TrackRenumbered_2 mv
 obtain ⟨⟨h1, h2⟩, h3, h4⟩ := hm
 rw [wrap64_in (n := 3 * m.Image) (by omega) (by omega), wrap64_in (n := x) (by omega) (by omega), Int.tmod_eq_emod_of_nonneg hx.1, wrap64_in (n := 2 * m.Feature) (by omega) (by omega), wrap64_in (n := y) (by omega) (by omega)]
 have := Int.emod_nonneg x (show (16 : Int) ≠ 0 by omega)
 have := Int.emod_lt_of_pos x (show (0 : Int) < 16 by omega)
 rw [wrap64_in (by omega) (by omega), wrap64_in (by omega) (by omega)]
theorem gt_map {γ : Type} [Inhabited γ] {l : List γ} {f : γ → γ} {k : Nat} (h : k < l.length) : gt (l.map f) (k : Int) = f (gt l (k : Int)) := by
 rw [gt_nat, gt_nat]; simp [List.getD, List.getElem?_eq_getElem h]
theorem gt_ext {γ : Type} [Inhabited γ] {a b : List γ} (h : a.length = b.length) (hg : ∀ k : Nat, k < a.length → gt a (k : Int) = gt b (k : Int)) : a = b := by
 refine List.ext_getElem h fun i h1 h2 => ?_
 have := hg i h1
 rw [gt_nat, gt_nat] at this
 simpa [List.getD, List.getElem?_eq_getElem h1, List.getElem?_eq_getElem h2] using this
theorem renum_v (l : Tis) (by' : A2 Int) (h0 : 0 ≤ by'.e0 ∧ by'.e0 ≤ 255) (h1 : 0 ≤ by'.e1 ∧ by'.e1 ≤ 255) : fiduciallaw26_TrackRenumbered 5000 l by' = some true := by
 apply Ok.eq
 unfold fiduciallaw26_TrackRenumbered
 refine Ok.bde rfl (Ok.cd (fun h => by cases h) (fun _ => ?_))
 refine Ok.cd (fun _ => ok_some.2 rfl) (fun hl => ?_)
 have hl : l.length ≤ 30 := by have := of_decide_eq_false hl; omega
 refine Ok.bde (check26_v (by omega)) (Ok.cd (fun _ => ok_some.2 rfl) (fun hc => ?_))
 have hc : codeT l = 0 := by simpa using hc
 obtain ⟨_, hv⟩ := codeT_ok.1 hc
 refine Ok.bde (big_v (by omega) (by omega)) (Ok.cd (fun _ => ok_some.2 rfl) (fun hb => ?_))
 have hs : ∀ t ∈ l, okS t.A ∧ okS t.B := fun t ht => by
  have h := (List.any_eq_false.1 hb) t ht
  simp only [Bool.or_eq_true, decide_eq_true_eq, not_or] at h
  have o := hv t ht
  have a1 : t.A.Image ≤ mx t.A.Image t.B.Image ∧ t.B.Image ≤ mx t.A.Image t.B.Image := by unfold mx; split <;> omega
  have a2 : t.A.Feature ≤ mx t.A.Feature t.B.Feature ∧ t.B.Feature ≤ mx t.A.Feature t.B.Feature := by unfold mx; split <;> omega
  simp only [okT, okM, okS] at *
  omega
 have hp : 0 ≤ by'.e0 % 16 ∧ by'.e0 % 16 ≤ 15 := ⟨by omega, by omega⟩
 generalize hP : by'.e0 % 16 = P at hp
 have hmv : ∀ {n : Nat} {m : api_Mark}, okS m → fiduciallaw26_TrackRenumbered_2 n m by'.e0 by'.e1 = some (mv P by'.e1 m) := fun hm => by rw [← hP]; exact mv_v h0 h1 hm
 have hv' : ∀ t ∈ l.map (mvT P by'.e1), okT t := fun t ht => by
  obtain ⟨u, hu, rfl⟩ := List.mem_map.1 ht
  obtain ⟨s1, s2⟩ := hs u hu
  have o := hv u hu
  refine ⟨mv_ok hp h1 s1, mv_ok hp h1 s2, o.2.2.1, ?_⟩
  have := o.2.2.2
  simp only [mvT, mv]; omega
 refine Ok.bd (R := fun o => o = l.map (mvT P by'.e1)) ?_ ?_
 · refine ok_rangeR (len := l.length) (fun k c => c = (l.take k).map (mvT P by'.e1)) (by omega) (by omega) rfl ?_ ?_
   · rintro again k c hk rfl ih
     dsimp only
     have hlen : ((l.take k).map (mvT P by'.e1)).length ≤ 30 := by rw [List.length_map, List.length_take]; omega
     refine Ok.cd (fun _ => ?_) (fun h => by have := of_decide_eq_false h; omega)
     refine Ok.gd (by rw [inR_nat]; exact decide_eq_true hk) ?_
     have hin : gt l (k : Int) ∈ l := by rw [gt_nat]; simp only [List.getD, List.getElem?_eq_getElem hk, Option.getD_some]; exact List.getElem_mem hk
     obtain ⟨s1, s2⟩ := hs _ hin
     refine Ok.bde (hmv s1) (Ok.bde (hmv s2) (Ok.gd (decide_eq_true (by omega)) (Ok.gd (decide_eq_true (by omega)) ?_)))
     refine ih _ ?_
     rw [List.take_add_one, List.getElem?_eq_getElem hk, List.map_append]
     congr 1
     rw [gt_nat]; simp [List.getD, List.getElem?_eq_getElem hk, mvT]
   · rintro again c rfl
     refine Ok.cd (fun h => by have := of_decide_eq_true h; omega) (fun _ => ok_some.2 ?_)
     rw [List.take_length]
 · rintro o rfl
   have hco : codeT (l.map (mvT P by'.e1)) = 0 := codeT_ok.2 ⟨by rw [List.length_map]; omega, hv'⟩
   refine Ok.bd (chain_v (by omega) hc) ?_
   rintro ⟨ts, c1⟩ ⟨e1, hC⟩
   refine Ok.bd (chain_v (by omega) hco) ?_
   rintro ⟨ts', c2⟩ ⟨e2, hC'⟩
   dsimp only at e1 e2 hC hC' ⊢
   subst e1; subst e2
   rw [ordT_mv hp h1 hv hs hv'] at hC'
   have hv2 : ∀ t ∈ ordT l, okT t := fun t ht => hv t (((ordT_ok hv).2.1 t).1 ht)
   have hms : ∀ m, marks26 (ordT l) m → okS m := fun m ⟨t, ht, h⟩ => by
    have := hs t (((ordT_ok hv).2.1 t).1 ht)
    rcases h with h | h
    · rw [h]; exact this.1
    · rw [h]; exact this.2
   have hsl := (ordT_ok hv).2.2
   obtain ⟨len1, len2⟩ := canon_len hv2 hC
   have hM := canon_mv hp h1 hms hC
   have hsy : ∀ {x y}, rel26 ((ordT l).map (mvT P by'.e1)) x y → rel26 ((ordT l).map (mvT P by'.e1)) y x := fun h => (rel26_eqv _).symm h
   have et : ts' = ts.map (List.map (mv P by'.e1)) := hC'.unique hM (fun _ => Iff.rfl) (fun _ _ _ _ => Iff.rfl) hsy hsy
   have hval : ∀ i : Nat, i < ts.length → ∀ u : Nat, u < (gt ts (i : Int)).length → okS (gt (gt ts (i : Int)) (u : Int)) := fun i hi u hu => hms _ (hC.val _ (gt_in hi) _ (by rw [gt_nat (l := gt ts (i : Int))]; simp only [List.getD, List.getElem?_eq_getElem hu, Option.getD_some]; exact List.getElem_mem hu))
   refine Ok.bd (R := fun o => o = ts.map (List.map (mv P by'.e1))) ?_ ?_
   · refine ok_rangeR (len := ts.length) (fun k (c : List Mks) => c.length = ts.length ∧ ∀ j : Nat, j < ts.length → gt c (j : Int) = if j < k then (gt ts (j : Int)).map (mv P by'.e1) else gt ts (j : Int)) (by omega) (by omega) ⟨rfl, fun j _ => by rw [if_neg (by omega)]⟩ ?_ ?_
     · rintro again k c hk ⟨cl, cg⟩ ih
       dsimp only
       have hck : k < c.length := by omega
       have h64 := len1 _ (gt_in hk)
       have eck : gt c (k : Int) = gt ts (k : Int) := by rw [cg k hk, if_neg (by omega)]
       refine Ok.cd (fun _ => ?_) (fun h => by have := of_decide_eq_false h; omega)
       refine Ok.gd (by rw [inR_nat]; exact decide_eq_true hck) ?_
       rw [eck]
       refine Ok.bde (cloneM2_v (by omega)) ?_
       simp only [Int.toNat_natCast]
       refine Ok.gd (by rw [inR_nat, List.length_set]; exact decide_eq_true hck) ?_
       have e1 : gt (c.set k (gt ts (k : Int))) (k : Int) = gt ts (k : Int) := by rw [gt_set26 hck, if_pos rfl]
       simp only [e1, List.set_set]
       refine Ok.bd (R := fun o => o.length = ts.length ∧ ∀ j : Nat, j < ts.length → gt o (j : Int) = if j < k + 1 then (gt ts (j : Int)).map (mv P by'.e1) else gt ts (j : Int)) ?_ (fun o ho => ih _ ho)
       refine ok_rangeR (len := (gt ts (k : Int)).length) (fun u (d : List Mks) => d.length = ts.length ∧ (∀ j : Nat, j < ts.length → j ≠ k → gt d (j : Int) = gt c (j : Int)) ∧ (gt d (k : Int)).length = (gt ts (k : Int)).length ∧ ∀ v : Nat, v < (gt ts (k : Int)).length → gt (gt d (k : Int)) (v : Int) = if v < u then mv P by'.e1 (gt (gt ts (k : Int)) (v : Int)) else gt (gt ts (k : Int)) (v : Int)) (by omega) (by omega)
        ⟨by rw [List.length_set]; exact cl, fun j hj hne => by rw [gt_set26 hck, if_neg hne], by rw [gt_set26 hck, if_pos rfl], fun v hv => by rw [gt_set26 hck, if_pos rfl, if_neg (by omega)]⟩ ?_ ?_
       · rintro again2 u d hu ⟨d1, d2, d3, d4⟩ ih2
         dsimp only
         have hdk : k < d.length := by omega
         refine Ok.cd (fun _ => ?_) (fun h => by have := of_decide_eq_false h; omega)
         refine Ok.gd (by rw [inR_nat]; exact decide_eq_true hdk) (Ok.gd (by rw [inR_nat]; exact decide_eq_true (by omega)) ?_)
         rw [d4 u hu, if_neg (by omega)]
         refine Ok.bde (hmv (hval k hk u hu)) ?_
         simp only [Int.toNat_natCast]
         refine ih2 _ ⟨by rw [List.length_set]; exact d1, fun j hj hne => by rw [gt_set26 hdk, if_neg hne]; exact d2 j hj hne, by rw [gt_set26 hdk, if_pos rfl, List.length_set]; exact d3, fun v hv => ?_⟩
         rw [gt_set26 hdk, if_pos rfl, gt_set26 (by omega)]
         by_cases e : v = u
         · subst e; rw [if_pos rfl, if_pos (by omega)]
         · rw [if_neg e, d4 v hv]
           by_cases g : v < u
           · rw [if_pos g, if_pos (by omega)]
           · rw [if_neg g, if_neg (by omega)]
       · rintro again2 d ⟨d1, d2, d3, d4⟩
         dsimp only
         refine Ok.cd (fun h => by have := of_decide_eq_true h; omega) (fun _ => ok_some.2 ⟨d1, fun j hj => ?_⟩)
         by_cases e : j = k
         · subst e
           rw [if_pos (by omega)]
           refine gt_ext (by rw [List.length_map]; exact d3) fun v hv => ?_
           rw [gt_map (by omega), d4 v (by omega), if_pos (by omega)]
         · rw [d2 j hj e, cg j hj]
           by_cases g : j < k
           · rw [if_pos g, if_pos (by omega)]
           · rw [if_neg g, if_neg (by omega)]
     · rintro again c ⟨cl, cg⟩
       dsimp only
       refine Ok.cd (fun h => by have := of_decide_eq_true h; omega) (fun _ => ok_some.2 ?_)
       refine gt_ext (by rw [List.length_map]; exact cl) fun j hj => ?_
       rw [gt_map (by omega), cg j (by omega), if_pos (by omega)]
   · rintro o rfl
     rw [et]
     refine Ok.cd (fun _ => Ok.cd (fun _ => ?_) (fun h => by cases h)) (fun h => by cases h)
     refine Ok.bde (same26_v (by rw [List.length_map]; omega) (by rw [List.length_map]; omega) (fun t ht => ?_)) (ok_some.2 rfl)
     obtain ⟨u, hu, rfl⟩ := List.mem_map.1 ht
     have := len1 u hu
     rw [List.length_map]; omega
end Go.L

