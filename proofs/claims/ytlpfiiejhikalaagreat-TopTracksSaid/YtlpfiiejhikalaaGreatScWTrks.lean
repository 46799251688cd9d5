import Derived.Test.YtlpfiiejhikalaaGreatSc11Trks
set_option linter.all false
set_option linter.unusedVariables false
set_option linter.unusedSectionVars false
namespace Go.Eng
open Go Go.RowKit
variable [Dr]
variable {K : Nat}
def tK (Z Z' : List (Option PB)) : Prop := ∀ (i : Nat) (p : PB), Z[i]? = some (some p) -> ∃ p' : PB, Z'[i]? = some (some p') /\ p'.blk = p.blk /\ p'.off = p.off /\ p'.size = p.size
section
variable {w : World} {mu mu' : Nat -> Prop} {Z Z' : List (Option PB)}
mutual
theorem Rv.sim (hmu : ∀ b, mu' b -> mu b) (hπ : tK Z Z') : (A : AV) -> (v : Value) -> Rv w mu Z A v -> Rv w mu' Z' A v
 | .unk, _, _ => trivial
 | .at x, v, h => h
 | .sl nl cs len, v, h => iL hmu (.sl nl cs len) v rfl h
 | .pp cs off, v, h => iL hmu (.pp cs off) v rfl h
 | .hs b off len es, v, h => by
  rcases h with h | ⟨p, a, cap, h1, h2, h3, h4, h5⟩
  · exact .inl h
  · obtain ⟨p', g1, g2, g3, g4⟩ := hπ b p h1
    exact .inr ⟨p', a, cap, g1, h2, h3, h4, by rw [g2, g3, g4]; exact h5⟩
 | .hc b off len cap es, v, h => by
  obtain ⟨p, a, h1, h2, h3, h4, h5⟩ := h
  obtain ⟨p', g1, g2, g3, g4⟩ := hπ b p h1
  exact ⟨p', a, g1, h2, h3, h4, by rw [g2, g3, g4]; exact h5⟩
 | .hp b off, v, h => by
  obtain ⟨p, h1, h2⟩ := h
  obtain ⟨p', g1, g2, g3, g4⟩ := hπ b p h1
  exact ⟨p', g1, by rw [g2, g3]; exact h2⟩
 | .mp b, v, h => by
  obtain ⟨p, h1, h2⟩ := h
  obtain ⟨p', g1, g2, g3, g4⟩ := hπ b p h1
  exact ⟨p', g1, by rw [g2]; exact h2⟩
 | .agg cs, v, h => by
  obtain ⟨vs, rfl, h1⟩ := h
  exact ⟨vs, rfl, RvL.sim hmu hπ cs _ h1⟩
 | .tup cs, v, h => by
  obtain ⟨vs, rfl, h1⟩ := h
  exact ⟨vs, rfl, RvL.sim hmu hπ cs _ h1⟩
 | .fn f fs cs, v, h => by
  obtain ⟨a, c, rfl, h1, h2⟩ := h
  exact ⟨a, c, rfl, RvL.sim hmu hπ fs _ h1, RvL.sim hmu hπ cs _ h2⟩
theorem RvL.sim (hmu : ∀ b, mu' b -> mu b) (hπ : tK Z Z') : (cs : List AV) -> (vs : List Value) -> RvL w mu Z cs vs -> RvL w mu' Z' cs vs
 | [], _, h => h
 | c :: cs, _, h => by
  obtain ⟨v, vs', rfl, h1, h2⟩ := h
  exact ⟨v, vs', rfl, Rv.sim hmu hπ c v h1, RvL.sim hmu hπ cs vs' h2⟩
end
theorem RvC.sim (hmu : ∀ b, mu' b -> mu b) (hπ : tK Z Z') : ∀ (cs : List AV) (b o : Nat), RvC w mu Z cs b o -> RvC w mu' Z' cs b o
 | [], _, _, _ => trivial
 | c :: cs, b, o, h => by
  obtain ⟨⟨v, h1, h2, h3⟩, h4⟩ := h
  exact ⟨⟨v, h1, h2, Rv.sim hmu hπ c v h3⟩, RvC.sim hmu hπ cs b (o + 1) h4⟩
theorem RvM.sim (hmu : ∀ b, mu' b -> mu b) (hπ : tK Z Z') : ∀ (i : Nat) (es : List (Value × AV)) (l : List MapEntry), RvM w mu Z i es l -> RvM w mu' Z' i es l
 | _, [], _, h => h
 | i, (k, a) :: es, _, h => by
  obtain ⟨e, l', rfl, h2, h0, h3, h4⟩ := h
  exact ⟨e, l', rfl, h2, h0, Rv.sim hmu hπ a _ h3, RvM.sim hmu hπ (i + 1) es l' h4⟩
theorem RcV.sim (hmu : ∀ b, mu' b -> mu b) (hπ : tK Z Z') {s : Option (Nat × Nat × Nat)} {x : RC} {v : Value} (h : RcV w mu Z s x v) : RcV w mu' Z' s x v := by
 cases x with
 | row len es cs => exact jl.sF hmu h
 | av A => exact ⟨h.1, Rv.sim hmu hπ A v h.2⟩
theorem cS.sim (hmu : ∀ b, mu' b -> mu b) (hπ : tK Z Z') {p : PB} {x : Blk} (h : cS w mu Z p x) : cS w mu' Z' p x := by
 cases x with
 | dead => trivial
 | own cs => exact ⟨h.1, RvC.sim hmu hπ cs _ _ h.2⟩
 | fix cs => exact RvC.sim hmu hπ cs _ _ h
 | map es => obtain ⟨a, h1, h2⟩ := h; exact ⟨a, h1, RvM.sim hmu hπ 0 es _ h2⟩
 | iter m n seen =>
  obtain ⟨h0, q, h1, h2⟩ := h
  obtain ⟨q', g1, g2, _⟩ := hπ m q h1
  exact ⟨h0, q', g1, by rw [g2]; exact h2⟩
 | rows rs =>
  obtain ⟨h1, h2, h3⟩ := h
  refine ⟨h1, RvW.of _ _ _ _ fun i x hx => ?_, h3⟩
  obtain ⟨v, v1, v2⟩ := RvW.at h2 hx
  exact ⟨v, v1, v2.sim hmu hπ⟩
 | mapr d ez l =>
  obtain ⟨a, h1, h2, h3, h4⟩ := h
  exact ⟨a, h1, RvM.sim hmu hπ 0 _ _ h2, fun k key len es cs hk => by
   obtain ⟨e, e1, e2⟩ := h3 k key len es cs hk
   exact ⟨e, e1, jl.sF hmu e2⟩, h4⟩
end
theorem Wk.Bu (b n : Nat) {x y : Blk} {s : List AV} {h : List Blk} (hb : h[b]? = some x) (hm : x.eh = true) (hK : K <= b) (hnb : n ≠ b)
  (hy : ∀ (out B : Nat -> Prop) (w : World) (Z : List (Option PB)) (p : PB), Inv out B w Z h -> Z[b]? = some (some p) -> ∃ f : Nat -> Option (Nat × Nat × Nat),
   (∀ c, y.owns { p with subs := f } c -> x.owns p c \/ ∃ z q, h[n]? = some z /\ z.eh = true /\ Z[n]? = some (some q) /\ z.owns q c) /\
   ∀ (mu' : Nat -> Prop) (Z' : List (Option PB)), (∀ c, mu' c -> aH out Z h c) -> tK Z Z' -> cS w mu' Z' { p with subs := f } y) :
  Wk K ⟨s, h⟩ ⟨s, (h.set b y).set n .dead⟩ := fun out B w Z a hR => by
 have hI := hR.inv
 have hl := hI.len
 simp only at hI hl
 have hbl := aE hb
 have split0 : ∀ {j : Nat} {z : Blk}, ((h.set b y).set n .dead)[j]? = some z -> z.isLive = true -> (j = b /\ z = y) \/ (j ≠ b /\ j ≠ n /\ h[j]? = some z) := by
  intro j z g1 g2
  rcases br g1 with ⟨_, rfl⟩ | ⟨hn, g1⟩
  · cases g2
  · rcases br g1 with ⟨rfl, rfl⟩ | ⟨hb', g1⟩
    · exact .inl ⟨rfl, rfl⟩
    · exact .inr ⟨fun e => hb' e.symm, fun e => hn e.symm, g1⟩
 cases hp : Z[b]? with
 | none => have := List.getElem?_eq_none_iff.1 hp; omega
 | some op =>
  cases op with
  | none =>
   have hmu : ∀ c, aH out Z ((h.set b y).set n .dead) c -> aH out Z h c := by
    rintro c (ho | ⟨j, z, q, g1, g2, g3, g4⟩)
    · exact .inl ho
    · rcases split0 g1 (Blk.bS g2) with ⟨rfl, _⟩ | ⟨_, _, g1⟩
      · rw [hp] at g3; cases g3
      · exact .inr ⟨j, z, q, g1, g2, g3, g4⟩
   have hE : Ext B w w (aH out Z h) (aH out Z ((h.set b y).set n .dead)) Z Z := ⟨fun _ _ => rfl, Nat.le_refl _, fun c _ hc => ⟨rfl, fun hc' => hc (hmu c hc')⟩, fun _ _ h => h, rfl, rfl, rfl, fun _ => Nat.le_refl _⟩
   refine ⟨Z, ⟨hR.defers, RvL.ext hE _ _ hR.slots, ⟨by simp [hl], hI.bound, hI.out_lt, ?_, ?_, ?_⟩⟩, hmu, jX.refl Z⟩
   · intro j z q c g1 g2 g3
     rcases split0 g1 (Blk.cU g3) with ⟨rfl, _⟩ | ⟨_, _, g1⟩
     · rw [hp] at g2; cases g2
     · exact hI.baseO j z q c g1 g2 g3
   · intro j z q g1 g2
     cases hz : z.isLive with
     | false => exact cS.qt hz
     | true =>
      rcases split0 g1 hz with ⟨rfl, _⟩ | ⟨_, _, g1⟩
      · rw [hp] at g2; cases g2
      · exact cS.ext hE (fun _ _ => rfl) (hI.ok j z q g1 g2)
   · intro i j z t q r c hij g1 g2 g3 g4 g5 g6 g7
     rcases split0 g1 (Blk.bS g5) with ⟨rfl, _⟩ | ⟨_, _, g1⟩
     · rw [hp] at g3; cases g3
     · rcases split0 g2 (Blk.cU g7) with ⟨rfl, _⟩ | ⟨_, _, g2⟩
       · rw [hp] at g4; cases g4
       · exact hI.sepO i j z t q r c hij g1 g2 g3 g4 g5 g6 g7
  | some p =>
   obtain ⟨f, hox, hok⟩ := hy out B w Z p hI hp
   have hsim : tK Z (Z.set b (some { p with subs := f })) := by
    intro i q hq
    by_cases hib : i = b
    · subst hib
      rw [hp] at hq; cases hq
      exact ⟨{ p with subs := f }, by rw [List.getElem?_set_self (by omega)], rfl, rfl, rfl⟩
    · exact ⟨q, by rw [List.getElem?_set_ne (fun e => hib e.symm)]; exact hq, rfl, rfl, rfl⟩
   have split : ∀ {j : Nat} {z : Blk} {q : PB}, ((h.set b y).set n .dead)[j]? = some z -> (Z.set b (some { p with subs := f }))[j]? = some (some q) -> z.isLive = true -> (j = b /\ z = y /\ q = { p with subs := f }) \/ (j ≠ b /\ j ≠ n /\ h[j]? = some z /\ Z[j]? = some (some q)) := by
    intro j z q g1 g2 g3
    rcases split0 g1 g3 with ⟨rfl, rfl⟩ | ⟨k1, k2, g1⟩
    · rw [List.getElem?_set_self (by omega)] at g2; cases g2; exact .inl ⟨rfl, rfl, rfl⟩
    · rw [List.getElem?_set_ne (fun e => k1 e.symm)] at g2; exact .inr ⟨k1, k2, g1, g2⟩
   have hmu : ∀ c, aH out (Z.set b (some { p with subs := f })) ((h.set b y).set n .dead) c -> aH out Z h c := by
    rintro c (ho | ⟨j, z, q, g1, g2, g3, g4⟩)
    · exact .inl ho
    · rcases split g1 g3 (Blk.bS g2) with ⟨rfl, rfl, rfl⟩ | ⟨_, _, g1, g3⟩
      · rcases hox c g4 with h1 | ⟨z, q, h1, h2, h3, h4⟩
        · exact .inr ⟨j, x, p, hb, hm, hp, h1⟩
        · exact .inr ⟨n, z, q, h1, h2, h3, h4⟩
      · exact .inr ⟨j, z, q, g1, g2, g3, g4⟩
   refine ⟨Z.set b (some { p with subs := f }), ⟨hR.defers, RvL.sim hmu hsim _ _ hR.slots, ⟨by simp [hl], hI.bound, hI.out_lt, ?_, ?_, ?_⟩⟩, hmu, fun i hi q hq => ?_⟩
   · intro j z q c g1 g2 g3
     rcases split g1 g2 (Blk.cU g3) with ⟨rfl, rfl, rfl⟩ | ⟨_, _, g1, g2⟩
     · rcases hox c g3 with h1 | ⟨z, q, h1, h2, h3, h4⟩
       · exact hI.baseO j x p c hb hp h1
       · exact hI.baseO n z q c h1 h3 h4
     · exact hI.baseO j z q c g1 g2 g3
   · intro j z q g1 g2
     cases hz : z.isLive with
     | false => exact cS.qt hz
     | true =>
      rcases split g1 g2 hz with ⟨rfl, rfl, rfl⟩ | ⟨_, _, g1, g2⟩
      · exact hok _ _ hmu hsim
      · exact cS.sim hmu hsim (hI.ok j z q g1 g2)
   · intro i j z t q r c hij g1 g2 g3 g4 g5 g6 g7
     rcases split g1 g3 (Blk.bS g5) with ⟨rfl, rfl, rfl⟩ | ⟨i1, i2, m1, m3⟩
     · rcases split g2 g4 (Blk.cU g7) with ⟨rfl, _, _⟩ | ⟨j1, j2, g2, g4⟩
       · exact (hij rfl).elim
       · rcases hox c g6 with h1 | ⟨z, q, h1, h2, h3, h4⟩
         · exact hI.sepO i j x t p r c hij hb g2 hp g4 hm h1 g7
         · exact hI.sepO n j z t q r c (fun e => j2 e.symm) h1 g2 h3 g4 h2 h4 g7
     · rcases split g2 g4 (Blk.cU g7) with ⟨rfl, rfl, rfl⟩ | ⟨j1, j2, g2, g4⟩
       · rcases hox c g7 with h1 | ⟨z', q', h1, h2, h3, h4⟩
         · exact hI.sepO i j z x q p c hij m1 hb m3 hp g5 g6 h1
         · exact hI.sepO i n z z' q q' c i2 m1 h1 m3 h3 g5 g6 h4
       · exact hI.sepO i j z t q r c hij m1 g2 m3 g4 g5 g6 g7
   · rw [List.getElem?_set_ne (by omega)]; exact hq
theorem Wk.xh (b : Nat) {x y : Blk} {s : List AV} {h : List Blk} (hb : h[b]? = some x) (hm : x.eh = true) (hK : K <= b)
  (hy : ∀ (out B : Nat -> Prop) (w : World) (Z : List (Option PB)) (p : PB), Inv out B w Z h -> Z[b]? = some (some p) -> ∃ f : Nat -> Option (Nat × Nat × Nat),
   (∀ c, y.owns { p with subs := f } c -> x.owns p c) /\
   ∀ (mu' : Nat -> Prop) (Z' : List (Option PB)), (∀ c, mu' c -> aH out Z h c) -> tK Z Z' -> cS w mu' Z' { p with subs := f } y) :
  Wk K ⟨s, h⟩ ⟨s, h.set b y⟩ := by
 have hbl := aE hb
 have := Wk.Bu (K := K) (s := s) b h.length (y := y) hb hm hK (by omega) (fun out B w Z p hI hp => by
  obtain ⟨f, h1, h2⟩ := hy out B w Z p hI hp
  exact ⟨f, fun c hc => .inl (h1 c hc), h2⟩)
 rwa [List.set_eq_of_length_le (by simp)] at this
theorem qz (A : AV) : ∀ (n i : Nat), i < n -> (cN [A] n)[i]? = some A
 | 0, i, h => by omega
 | n + 1, 0, _ => rfl
 | n + 1, i + 1, h => by simpa [cN] using qz A n i (by omega)
theorem Wk.Bg (b es n : Nat) {s : List AV} {h : List Blk} (hb : h[b]? = some (.own (cN [.at (.slice none 0 0)] n))) (hK : Nat.ble K b = true := by kernel_rfl) : Wk K ⟨s, h⟩ ⟨s, h.set b (.rows (List.replicate n (.row 0 es [])))⟩ :=
 Wk.xh b hb rfl (lbT hK) fun out B w Z p hI hp => by
  refine ⟨fun _ => none, ?_, fun mu' Z' hmu hπ => ?_⟩
  · rintro c (h | ⟨k, l, e, cs, q, _, h, _⟩)
    · exact h
    · cases h
  · obtain ⟨h1, h2⟩ := hI.ok b _ p hb hp
    refine ⟨h1, RvW.of _ _ _ _ fun i x hx => ?_, And.intro (fun k l e cs q _ h => by cases h) (fun k k' l e l2 e2 cs cs2 q q' _ _ _ h => by cases h)⟩
    have hi : i < n := by have := aE hx; simpa using this
    have hx : x = .row 0 es [] := by
     have := List.mem_of_getElem? hx
     exact (List.mem_replicate.1 this).2
    subst hx
    obtain ⟨v, v1, v2, v3⟩ := RvC.get _ _ _ i _ h2 (qz _ n i hi)
    exact ⟨v, v1, .inl ⟨rfl, rfl, v3⟩⟩
theorem Wk.Ax (b k : Nat) {rs : List RC} {len es : Nat} {cs : List AV} {s : List AV} {h : List Blk} (hb : h[b]? = some (.rows rs)) (hk : rs[k]? = some (.row len es cs)) :
  Wk K ⟨s, h⟩ ⟨s, h.set b (.rows (rs.set k (.av (.hs h.length 0 len es)))) ++ [.own cs]⟩ := fun out B w Z a hR => by
 have hI := hR.inv
 have hl := hI.len
 simp only at hI hl
 have hbl := aE hb
 have hkl := aE hk
 have rowsOf : ∀ {k' len' es' : Nat} {cs' : List AV}, (rs.set k (.av (.hs h.length 0 len es)))[k']? = some (.row len' es' cs') -> k' ≠ k /\ rs[k']? = some (.row len' es' cs') := by
  intro k' len' es' cs' g
  rcases br g with ⟨_, e⟩ | ⟨hne, g⟩
  · cases e
  · exact ⟨fun e => hne e.symm, g⟩
 obtain ⟨o, ho1, ho2⟩ : ∃ o : Option PB, (∀ q, o = some q -> ∃ (p : PB) (sq : Nat × Nat × Nat), Z[b]? = some (some p) /\ p.subs k = some sq /\ q = ⟨sq.1, sq.2.1, sq.2.2, fun _ => none⟩ /\
   (∃ c e, w.heap[q.blk]? = some (.cells c e (0, 0)) /\ c.size = q.size) /\ RvC w (aH out Z h) [] cs q.blk q.off) /\
   ∀ p, Z[b]? = some (some p) -> ∃ v, w.cell? ⟨p.blk, p.off + k, none⟩ = some v /\ v.oneCell' = true /\ ((len = 0 /\ v = .slice none 0 0) \/ ∃ (q : PB) (a : Addr) (cap : Nat), o = some q /\ v = .slice (some a) len cap /\ len <= cap /\ a.spot = none /\ (0 < cap -> a = ⟨q.blk, q.off + 0, none⟩ /\ q.off + 0 + cap * es <= q.size)) := by
  cases hp : Z[b]? with
  | none => exact ⟨none, And.intro (fun _ e => by cases e) (fun _ e => by cases e)⟩
  | some op =>
   cases op with
   | none => exact ⟨none, And.intro (fun _ e => by cases e) (fun _ e => by cases e)⟩
   | some p =>
    obtain ⟨v, v1, v2⟩ := RvW.row rs _ _ _ k len es cs (hI.ok b _ p hb hp).2.1 hk
    rcases v2 with ⟨rfl, rfl, rfl⟩ | ⟨q, a, cap, c, e, g1, rfl, g3, g4, g5, g6, g7, g0, g8⟩
    · exact ⟨none, And.intro (fun _ e => by cases e) (fun p' e => by cases e; exact ⟨_, v1, rfl, .inl ⟨rfl, rfl⟩⟩)⟩
    · refine ⟨some ⟨q.1, q.2.1, q.2.2, fun _ => none⟩, And.intro (fun q' e => ?_) (fun p' e => ?_)⟩
      · cases e; exact ⟨p, q, rfl, g1, rfl, ⟨c, _, g6, g7⟩, g8⟩
      · cases e; exact ⟨_, v1, rfl, .inr ⟨_, a, cap, rfl, rfl, g3, g4, g5⟩⟩
 have split : ∀ {j : Nat} {z : Blk} {q : PB}, (h.set b (.rows (rs.set k (.av (.hs h.length 0 len es)))) ++ [.own cs])[j]? = some z -> (Z ++ [o])[j]? = some (some q) ->
   (j = b /\ z = .rows (rs.set k (.av (.hs h.length 0 len es))) /\ Z[b]? = some (some q)) \/ (j = h.length /\ z = .own cs /\ o = some q) \/ (j ≠ b /\ j ≠ h.length /\ h[j]? = some z /\ Z[j]? = some (some q)) := by
  intro j z q g1 g2
  by_cases hj : j < h.length
  · rw [List.getElem?_append_left (by simpa using hj)] at g1
    rw [List.getElem?_append_left (by omega)] at g2
    rcases br g1 with ⟨rfl, rfl⟩ | ⟨hne, g1⟩
    · exact .inl ⟨rfl, rfl, g2⟩
    · exact .inr (.inr ⟨fun e => hne e.symm, by omega, g1, g2⟩)
  · have hjl := aE g1
    simp at hjl
    obtain rfl : j = h.length := by omega
    rw [List.getElem?_append_right (by simp)] at g1
    rw [List.getElem?_append_right (by omega)] at g2
    simp at g1
    rw [hl] at g2
    simp at g2
    exact .inr (.inl ⟨rfl, g1.symm, g2⟩)
 have part1 : ∀ {p : PB} {c : Nat}, (Blk.rows (rs.set k (.av (.hs h.length 0 len es)))).owns p c -> (Blk.rows rs).owns p c := by
  rintro p c (g | ⟨k', l', e', c', q, g1, g2, g3⟩)
  · exact .inl g
  · exact .inr ⟨k', l', e', c', q, (rowsOf g1).2, g2, g3⟩
 have part2 : ∀ {q : PB} {c : Nat}, o = some q -> (Blk.own cs).owns q c -> ∃ p, Z[b]? = some (some p) /\ (Blk.rows rs).owns p c := by
  intro q c g1 g2
  obtain ⟨p, sq, e1, e2, rfl, _⟩ := ho1 q g1
  exact ⟨p, e1, .inr ⟨k, len, es, cs, sq, hk, e2, g2⟩⟩
 have hmu : ∀ c, aH out (Z ++ [o]) (h.set b (.rows (rs.set k (.av (.hs h.length 0 len es)))) ++ [.own cs]) c -> aH out Z h c := by
  rintro c (ho | ⟨j, z, q, g1, g2, g3, g4⟩)
  · exact .inl ho
  · rcases split g1 g3 with ⟨rfl, rfl, g3⟩ | ⟨rfl, rfl, g3⟩ | ⟨_, _, g1, g3⟩
    · exact .inr ⟨j, _, q, hb, rfl, g3, part1 g4⟩
    · obtain ⟨p, e1, e2⟩ := part2 g3 g4
      exact .inr ⟨b, _, p, hb, rfl, e1, e2⟩
    · exact .inr ⟨j, z, q, g1, g2, g3, g4⟩
 have hE : Ext B w w (aH out Z h) (aH out (Z ++ [o]) (h.set b (.rows (rs.set k (.av (.hs h.length 0 len es)))) ++ [.own cs])) Z (Z ++ [o]) := ⟨fun _ _ => rfl, Nat.le_refl _, fun c _ hc => ⟨rfl, fun hc' => hc (hmu c hc')⟩, fun i q hq => by
  rw [List.getElem?_append_left (aE hq)]; exact hq, rfl, rfl, rfl, fun _ => Nat.le_refl _⟩
 have apart : ∀ {p q : PB} {c : Nat}, Z[b]? = some (some p) -> o = some q -> (Blk.rows (rs.set k (.av (.hs h.length 0 len es)))).owns p c -> ¬ (Blk.own cs).owns q c := by
  rintro p q c hp hq hc e
  have e : q.blk = c := e
  obtain ⟨p', sq, e1, e2, rfl, _⟩ := ho1 q hq
  rw [hp] at e1; cases e1
  obtain ⟨_, _, s1, s2⟩ := hI.ok b _ p hb hp
  rcases hc with g | ⟨k', l', e', c', q', g1, g2, g3⟩
  · exact s1 k len es cs sq hk e2 (e.trans g.symm)
  · exact s2 k k' len es l' e' cs c' sq q' (fun e => (rowsOf g1).1 e.symm) hk (rowsOf g1).2 e2 g2 (e.trans g3.symm)
 refine ⟨Z ++ [o], ⟨hR.defers, RvL.ext hE _ _ hR.slots, ⟨by simp [hl], hI.bound, hI.out_lt, ?_, ?_, ?_⟩⟩, hmu, hE.pin⟩
 · intro j z q c g1 g2 g3
   rcases split g1 g2 with ⟨rfl, rfl, g2⟩ | ⟨rfl, rfl, g2⟩ | ⟨_, _, g1, g2⟩
   · exact hI.baseO j _ q c hb g2 (part1 g3)
   · obtain ⟨p, e1, e2⟩ := part2 g2 g3
     exact hI.baseO b _ p c hb e1 e2
   · exact hI.baseO j z q c g1 g2 g3
 · intro j z q g1 g2
   rcases split g1 g2 with ⟨rfl, rfl, g2⟩ | ⟨rfl, rfl, g2⟩ | ⟨_, _, g1, g2⟩
   · obtain ⟨h1, h2, s1, s2⟩ := hI.ok j _ q hb g2
     refine ⟨h1, RvW.of _ _ _ _ fun i x hx => ?_, And.intro (fun k' l' e' c' q' g1 g2 => s1 k' l' e' c' q' (rowsOf g1).2 g2) (fun k1 k2 l1 e1 l2 e2 c1 c2 q1 q2 hk g1 g2 g3 g4 => s2 k1 k2 l1 e1 l2 e2 c1 c2 q1 q2 hk (rowsOf g1).2 (rowsOf g2).2 g3 g4)⟩
     rcases br hx with ⟨rfl, rfl⟩ | ⟨hne, hx⟩
     · obtain ⟨v, v1, v2, v3⟩ := ho2 q g2
       refine ⟨v, v1, v2, ?_⟩
       rcases v3 with v3 | ⟨q', a', cap, v3, v4⟩
       · exact .inl v3
       · exact .inr ⟨q', a', cap, by rw [<- hl, List.getElem?_append_right (Nat.le_refl _), Nat.sub_self]; simp [v3], v4⟩
     · obtain ⟨v, v1, v2⟩ := RvW.at h2 hx
       exact ⟨v, v1, v2.ext hE (fun _ _ _ _ _ _ => rfl)⟩
   · obtain ⟨p, sq, e1, e2, _, e4, e5⟩ := ho1 q g2
     exact ⟨e4, (RvC.ext (hE.pure) cs _ _ rfl e5).lift⟩
   · exact cS.ext hE (fun _ _ => rfl) (hI.ok j z q g1 g2)
 · intro i j z t q r c hij g1 g2 g3 g4 g5 g6 g7
   rcases split g1 g3 with ⟨rfl, rfl, g3⟩ | ⟨rfl, rfl, g3⟩ | ⟨i1, _, m1, m3⟩
   · rcases split g2 g4 with ⟨rfl, _, _⟩ | ⟨rfl, rfl, g4⟩ | ⟨_, _, g2, g4⟩
     · exact hij rfl
     · exact apart g3 g4 g6 g7
     · exact hI.sepO i j _ t q r c hij hb g2 g3 g4 rfl (part1 g6) g7
   · rcases split g2 g4 with ⟨rfl, rfl, g4⟩ | ⟨rfl, _, _⟩ | ⟨j1, _, g2, g4⟩
     · exact apart g4 g3 g7 g6
     · exact hij rfl
     · obtain ⟨p, e1, e2⟩ := part2 g3 g6
       exact hI.sepO b j _ t p r c (fun e => j1 e.symm) hb g2 e1 g4 rfl e2 g7
   · rcases split g2 g4 with ⟨rfl, rfl, g4⟩ | ⟨rfl, rfl, g4⟩ | ⟨_, _, g2, g4⟩
     · exact hI.sepO i j z _ q r c hij m1 hb m3 g4 g5 g6 (part1 g7)
     · obtain ⟨p, e1, e2⟩ := part2 g4 g7
       exact hI.sepO i b z _ q p c i1 m1 hb m3 e1 g5 g6 e2
     · exact hI.sepO i j z t q r c hij m1 g2 m3 g4 g5 g6 g7
theorem Wk.zi (b k n : Nat) {rs : List RC} {len es : Nat} {cs : List AV} {s : List AV} {h : List Blk} (hb : h[b]? = some (.rows rs)) (hk : rs[k]? = some (.av (.hs n 0 len es))) (hn : h[n]? = some (.own cs)) (hp0 : cn cs = []) (h0 : len = 0 -> cs = []) (hK : Nat.ble K b = true := by kernel_rfl) (hnb : Nat.beq n b = false := by kernel_rfl) :
  Wk K ⟨s, h⟩ ⟨s, (h.set b (.rows (rs.set k (.row len es cs)))).set n .dead⟩ :=
 have hnb : n ≠ b := fun e => by rw [e] at hnb; have := Nat.beq_refl b; rw [hnb] at this; cases this
 Wk.Bu b n hb rfl (lbT hK) hnb fun out B w Z p hI hp => by
  have hkl := aE hk
  obtain ⟨h1, h2, s1, s2⟩ := hI.ok b _ p hb hp
  obtain ⟨v, v1, v2, v3⟩ := RvW.av rs _ _ _ k _ h2 hk
  have rowsOf : ∀ {k' len' es' : Nat} {cs' : List AV}, (rs.set k (.row len es cs))[k']? = some (.row len' es' cs') -> k' ≠ k -> rs[k']? = some (.row len' es' cs') := by
   intro k' len' es' cs' g hne
   rcases br g with ⟨e, _⟩ | ⟨_, g⟩
   · exact (hne e.symm).elim
   · exact g
  let f : Nat -> Option (Nat × Nat × Nat) := fun i => if i = k then (match Z[n]? with | some (some q) => some (q.blk, q.off, q.size) | _ => none) else p.subs i
  have fk : ∀ {sq : Nat × Nat × Nat}, f k = some sq -> ∃ q, Z[n]? = some (some q) /\ sq = (q.blk, q.off, q.size) := by
   intro sq e
   simp only [f, if_true] at e
   split at e
   · rename_i q hq; cases e; exact ⟨q, hq, rfl⟩
   · cases e
  have fo : ∀ {i : Nat}, i ≠ k -> f i = p.subs i := fun hi => by simp only [f, if_neg hi]
  refine ⟨f, ?_, fun mu' Z' hmu hπ => ⟨h1, RvW.of _ _ _ _ fun i x hx => ?_, And.intro ?_ ?_⟩⟩
  · rintro c (g | ⟨k', l', e', c', q, g1, g2, g3⟩)
    · exact .inl (.inl g)
    · by_cases hkk : k' = k
      · subst hkk
        obtain ⟨q', e1, rfl⟩ := fk g2
        exact .inr ⟨_, q', hn, rfl, e1, g3⟩
      · exact .inl (.inr ⟨k', l', e', c', q, rowsOf g1 hkk, (fo hkk).symm.trans g2, g3⟩)
  · rcases br hx with ⟨rfl, rfl⟩ | ⟨hne, hx⟩
    · refine ⟨v, v1, ?_⟩
      rcases v3 with ⟨e1, e2⟩ | ⟨q, a, cap, g1, g2, g3, g4, g5⟩
      · exact .inl ⟨e1, h0 e1, e2⟩
      · obtain ⟨⟨c, e, o1, o2⟩, o3⟩ := hI.ok n _ q hn g1
        refine .inr ⟨(q.blk, q.off, q.size), a, cap, c, e, ?_, g2, g3, g4, by simpa using g5, o1, o2, h0, gN hmu cs _ _ hp0 o3⟩
        simp only [f, if_true, g1]
    · obtain ⟨u, u1, u2⟩ := RvW.at h2 hx
      exact ⟨u, u1, by show RcV w mu' Z' (f i) x u; rw [fo (fun e => hne e.symm)]; exact u2.sim hmu hπ⟩
  · intro k' l' e' c' q g1 g2
    by_cases hkk : k' = k
    · subst hkk
      obtain ⟨q', e1, rfl⟩ := fk g2
      exact fun e => hI.sepO n b _ _ q' p p.blk hnb hn hb e1 hp rfl e (.inl rfl)
    · exact s1 k' l' e' c' q (rowsOf g1 hkk) ((fo hkk).symm.trans g2)
  · intro k1 k2 l1 e1 l2 e2 c1 c2 q1 q2 hk12 g1 g2 g3 g4
    by_cases hk1 : k1 = k
    · subst hk1
      have hk2 : k2 ≠ k1 := fun e => hk12 e.symm
      obtain ⟨q', i1, rfl⟩ := fk g3
      exact fun e => hI.sepO n b _ _ q' p q2.1 hnb hn hb i1 hp rfl e (.inr ⟨k2, l2, e2, c2, q2, rowsOf g2 hk2, (fo hk2).symm.trans g4, rfl⟩)
    · by_cases hk2 : k2 = k
      · subst hk2
        obtain ⟨q', i1, rfl⟩ := fk g4
        exact fun e => hI.sepO n b _ _ q' p q1.1 hnb hn hb i1 hp rfl e.symm (.inr ⟨k1, l1, e1, c1, q1, rowsOf g1 hk1, (fo hk1).symm.trans g3, rfl⟩)
      · exact s2 k1 k2 l1 e1 l2 e2 c1 c2 q1 q2 hk12 (rowsOf g1 hk1) (rowsOf g2 hk2) ((fo hk1).symm.trans g3) ((fo hk2).symm.trans g4)
theorem Wk.D2 (b k es : Nat) {rs : List RC} {s : List AV} {h : List Blk} (hb : h[b]? = some (.rows rs)) (hk : rs[k]? = some (.av (.at (.slice none 0 0)))) (hK : Nat.ble K b = true := by kernel_rfl) :
  Wk K ⟨s, h⟩ ⟨s, h.set b (.rows (rs.set k (.row 0 es [])))⟩ :=
 Wk.xh b hb rfl (lbT hK) fun out B w Z p hI hp => by
  obtain ⟨h1, h2, s1, s2⟩ := hI.ok b _ p hb hp
  obtain ⟨v, v1, v2, v3⟩ := RvW.av rs _ _ _ k _ h2 hk
  have rowsOf : ∀ {k' len' es' : Nat} {cs' : List AV}, (rs.set k (.row 0 es []))[k']? = some (.row len' es' cs') -> k' ≠ k -> rs[k']? = some (.row len' es' cs') := by
   intro k' len' es' cs' g hne
   rcases br g with ⟨e, _⟩ | ⟨_, g⟩
   · exact (hne e.symm).elim
   · exact g
  have ne : ∀ {i : Nat} {q : Nat × Nat × Nat}, (fun i => if i = k then none else p.subs i : Nat -> Option (Nat × Nat × Nat)) i = some q -> i ≠ k /\ p.subs i = some q := by
   intro i q e
   simp only at e
   split at e
   · cases e
   · rename_i hi; exact ⟨hi, e⟩
  refine ⟨fun i => if i = k then none else p.subs i, ?_, fun mu' Z' hmu hπ => ⟨h1, RvW.of _ _ _ _ fun i x hx => ?_, And.intro ?_ ?_⟩⟩
  · rintro c (g | ⟨k', l', e', c', q, g1, g2, g3⟩)
    · exact .inl g
    · obtain ⟨i1, i2⟩ := ne g2
      exact .inr ⟨k', l', e', c', q, rowsOf g1 i1, i2, g3⟩
  · rcases br hx with ⟨rfl, rfl⟩ | ⟨hne, hx⟩
    · exact ⟨v, v1, .inl ⟨rfl, rfl, v3⟩⟩
    · obtain ⟨u, u1, u2⟩ := RvW.at h2 hx
      refine ⟨u, u1, ?_⟩
      show RcV w mu' Z' (if i = k then none else p.subs i) x u
      rw [if_neg (fun e => hne e.symm)]; exact u2.sim hmu hπ
  · intro k' l' e' c' q g1 g2
    obtain ⟨i1, i2⟩ := ne g2
    exact s1 k' l' e' c' q (rowsOf g1 i1) i2
  · intro k1 k2 l1 e1 l2 e2 c1 c2 q1 q2 hk12 g1 g2 g3 g4
    obtain ⟨i1, i2⟩ := ne g3
    obtain ⟨j1, j2⟩ := ne g4
    exact s2 k1 k2 l1 e1 l2 e2 c1 c2 q1 q2 hk12 (rowsOf g1 i1) (rowsOf g2 j1) i2 j2
theorem Wk.Ej (b : Nat) {rs : List RC} {s : List AV} {h : List Blk} (hb : h[b]? = some (.rows rs)) : Wk K ⟨s, h⟩ ⟨s, h.set b (.fix (rs.map frz))⟩ := fun out B w Z a hR => by
 obtain ⟨g1, g2⟩ := hR.inv.wX (b := b) hb
 have hu : upd h b (.fix (rs.map frz)) = h.set b (.fix (rs.map frz)) := by simp [upd, aE hb]
 rw [hu] at g1 g2
 exact ⟨Z, ⟨hR.defers, RvL.ext g2 _ _ hR.slots, g1⟩, Ext.s7 g1 g2, jX.refl Z⟩
theorem Sn.hsR {H : List Blk} {ok : Nat -> Bool} {b len : Nat} {rs : List RC} (hok : ok b = true) (hb : H[b]? = some (.rows rs)) (hp : cn (rs.map frz) = []) (h0 : len = 0 -> rs = []) : Sn H ok (.hs b 0 len 1) (.sl true (rs.map frz) len) := fun w mu mu' Z v hL hm hv => by
 rcases hv with ⟨rfl, rfl⟩ | ⟨p, a, cap, h1, rfl, h2, hsp, h3⟩
 · exact .inl ⟨rfl, rfl, by rw [h0 rfl]; rfl, rfl⟩
 · obtain ⟨g1, g2⟩ := hL.rows b p rs hok hb h1
   obtain ⟨ab, ao, asp⟩ := a
   simp only at hsp; subst hsp
   by_cases hcap : 0 < cap
   · obtain ⟨e1, _⟩ := h3 hcap
     cases e1
     exact .inr (.inl ⟨_, _, cap, rfl, h2, fun _ => g2, gN (fun _ h => h) _ _ _ hp g1⟩)
   · have : rs = [] := h0 (by omega)
     subst this
     exact .inr (.inl ⟨ab, ao, cap, rfl, h2, fun h => (h rfl).elim, trivial⟩)
end Go.Eng
namespace Go.L
open Go Go.Eng
variable [Dr]
variable {K : Nat}
def rwA {α : Type} (es : Nat) (c : α -> List AV) (l : List α) : RC := .row l.length es (l.flatMap c)
def rws {α : Type} (es : Nat) (c : α -> List AV) (e : List (List α)) : List RC := e.map (rwA es c)
section
variable {α : Type} {es : Nat} {c : α -> List AV} {e : List (List α)}
theorem gI : (rws es c e).length = e.length := by simp [rws]
theorem s5 : (rws es c e).map frz = e.flatMap (slC c) := by
 induction e with
 | nil => rfl
 | cons x e ih => rw [List.flatMap_cons, <- ih]; rfl
theorem zV : iG (rws es c e) = [] := by
 induction e with
 | nil => rfl
 | cons x e ih => exact ih
theorem xq {i : Int} (hi : inR i e.length = true) : (rws es c e)[i.toNat]? = some (rwA es c (gt e i)) := by
 have := ax hi
 simp [rws, gt, this]
theorem xi {k : Nat} {x : List α} : (rws es c e).set k (rwA es c x) = rws es c (e.set k x) := by simp [rws, List.map_set]
theorem zS {x : List α} : rws es c e ++ [rwA es c x] = rws es c (e ++ [x]) := by simp [rws]
theorem rld {A : AV} {i : Int} {j : Nat} (hi : inR i e.length = true) (hj : j = i.toNat) : bc.ofP (rq ((rws es c e).set i.toNat (.av A))[j]?) = some (.pure A) := by
 have := ax hi
 rw [hj, List.getElem?_set_self (by rw [gI]; exact this)]; rfl
theorem Ei {A : AV} {i : Int} {j b : Nat} (hi : inR i e.length = true) (hj : j = i.toNat) : stO (decide (j < (rws es c e).length) && true) [(b, .rows ((rws es c e).set j (.av A)))] = some (.eff .unk [(b, .rows ((rws es c e).set i.toNat (.av A)))]) := by
 have := ax hi
 subst hj
 exact dB (dw (decide_eq_true (by rw [gI]; exact this))) rfl
theorem rst {A A' : AV} {i : Int} {j b : Nat} (hi : inR i e.length = true) (hj : j = i.toNat) : stO (decide (j < ((rws es c e).set i.toNat (.av A')).length) && true) [(b, .rows (((rws es c e).set i.toNat (.av A')).set j (.av A)))] = some (.eff .unk [(b, .rows ((rws es c e).set i.toNat (.av A)))]) := by
 have := ax hi
 subst hj
 exact dB (dw (decide_eq_true (by rw [List.length_set, gI]; exact this))) (by rw [List.set_set])
theorem rap {A : AV} {i nid len : Nat} {by_ : Nat} (hl : len = e.length) (h2 : decide ((e.length + 1) * by_ <= 140737488355328) = true) (h3 : decide (e.length + 1 <= 4611686018427387904) = true) :
  jW (decide (len <= (rws es c e).length) && decide ((len + 1) * by_ <= 140737488355328) && decide (len + 1 <= 4611686018427387904) && true) (some (.eff (.hs nid 0 (len + 1) 1) [(i, .dead), (nid, .rows ((rws es c e).take len ++ [.av A]))])) =
   some (.eff (.hs nid 0 (e.length + 1) 1) [(i, .dead), (nid, .rows (rws es c e ++ [.av A]))]) := by
 subst hl
 have h1 : decide (e.length <= (rws es c e).length) = true := decide_eq_true (by rw [gI]; exact Nat.le_refl _)
 rw [h1, h2, h3, List.take_of_length_le (by rw [gI]; exact Nat.le_refl _)]; rfl
theorem B3 {n : Int} {by_ : Nat} {r : bc} (h : decide (0 <= n) = true) (h2 : decide ((by_ : Int) * n <= 281474976710656) = true) (h3 : decide (n <= 9223372036854775807) = true) :
  jW (decide (0 <= n) && decide (n <= n) && decide ((by_ : Int) * n <= 281474976710656) && decide (n <= 9223372036854775807) && true && true && true) (some r) = some r := by
 have : decide (n <= n) = true := by simp
 rw [h, h2, h3, this]; rfl
theorem ye {β : Type} {d : β -> List AV} {z : β} {zc : List AV} {n : Int} {nid by_ es' : Nat} (hz : zc = d z) (h : decide (0 <= n) = true) (h2 : decide ((by_ : Int) * n <= 281474976710656) = true) (h3 : decide (n <= 9223372036854775807) = true) :
  jW (decide ((0 : Int) <= 0) && decide (0 <= n) && decide ((by_ : Int) * n <= 281474976710656) && decide (n <= 9223372036854775807) && true && true && true) (some (.eff (.hs nid 0 0 es') [(nid, .own (cN zc n.toNat))])) =
   some (.eff (.hs nid 0 0 es') [(nid, .own ((List.replicate n.toNat z).flatMap d))]) := by
 subst hz
 rw [h, h2, h3, nc]; rfl
theorem neT {i j : Int} {n m : Nat} (hi : inR i n = true) (hj : inR j m = true) (hne : decide (i ≠ j) = true) : i.toNat ≠ j.toNat := by
 simp only [inR, Bool.and_eq_true, decide_eq_true_eq] at hi hj
 have := dcT hne
 omega
theorem yp {i j : Int} {R : RC} (hi : inR i e.length = true) (hj : inR j e.length = true) (hne : decide (i ≠ j) = true) : ((rws es c e).set i.toNat R)[j.toNat]? = some (rwA es c (gt e j)) := by
 rw [List.getElem?_set_ne (neT hi hj hne)]; exact xq hj
theorem C9 {A S : AV} {i j : Int} {k : Nat} (hi : inR i e.length = true) (hj : inR j e.length = true) (hne : decide (i ≠ j) = true) (hk : k = i.toNat) : bc.ofP (rq (((rws es c e).set i.toNat (.av A)).set j.toNat (.av S))[k]?) = some (.pure A) := by
 subst hk
 rw [List.getElem?_set_ne (neT hi hj hne).symm, List.getElem?_set_self (by rw [gI]; exact ax hi)]; rfl
theorem CA {A S : AV} {i j : Int} {k : Nat} (hj : inR j e.length = true) (hk : k = j.toNat) : bc.ofP (rq (((rws es c e).set i.toNat (.av A)).set j.toNat (.av S))[k]?) = some (.pure S) := by
 subst hk
 rw [List.getElem?_set_self (by rw [List.length_set, gI]; exact ax hj)]; rfl
section
variable {s : List AV} {h : List Blk}
theorem Wk.mkT (b : Nat) {n : Nat} (es : Nat) (c : α -> List AV) (hb : h[b]? = some (.own (cN [.at (.slice none 0 0)] n)) := by kernel_rfl) (hK : Nat.ble K b = true := by kernel_rfl) : Wk K ⟨s, h⟩ ⟨s, h.set b (.rows (rws es c (List.replicate n [])))⟩ := by
 have := Wk.Bg (K := K) (s := s) b es n hb hK
 have e : rws es c (List.replicate n []) = List.replicate n (.row 0 es []) := by simp [rws, rwA]
 rw [e]; exact this
theorem Wk.zj (b : Nat) {i : Int} (hi : inR i e.length = true) (hb : h[b]? = some (.rows (rws es c e)) := by kernel_rfl) : Wk K ⟨s, h⟩ ⟨s, h.set b (.rows ((rws es c e).set i.toNat (.av (.hs h.length 0 (gt e i).length es)))) ++ [.own ((gt e i).flatMap c)]⟩ :=
 Wk.Ax b i.toNat hb (xq hi)
theorem Wk.tP (b n : Nat) {x : List α} {i : Int} {len : Nat} (hp : ∀ y, cn (c y) = []) (hi : inR i e.length = true) (hl : x.length = len) (hb : h[b]? = some (.rows ((rws es c e).set i.toNat (.av (.hs n 0 len es)))) := by kernel_rfl) (hn : h[n]? = some (.own (x.flatMap c)) := by kernel_rfl) (hK : Nat.ble K b = true := by kernel_rfl) (hnb : Nat.beq n b = false := by kernel_rfl) :
  Wk K ⟨s, h⟩ ⟨s, (h.set b (.rows (rws es c (e.set i.toNat x)))).set n .dead⟩ := by
 subst hl
 have := ax hi
 have := Wk.zi (K := K) (s := s) b i.toNat n hb (by rw [List.getElem?_set_self (by rw [gI]; exact this)]) hn (aA hp x) (fun h => cZ h) hK hnb
 rw [List.set_set] at this
 rw [<- xi]; exact this
theorem Wk.Ee (b : Nat) (hb : h[b]? = some (.rows (rws es c e ++ [.av (.at (.slice none 0 0))])) := by kernel_rfl) (hK : Nat.ble K b = true := by kernel_rfl) : Wk K ⟨s, h⟩ ⟨s, h.set b (.rows (rws es c (e ++ [[]])))⟩ := by
 have := Wk.D2 (K := K) (s := s) b e.length es hb (by rw [List.getElem?_append_right (by rw [gI]; exact Nat.le_refl _), gI, Nat.sub_self]; rfl) hK
 rw [List.set_append_right _ _ (by rw [gI]; exact Nat.le_refl _), gI, Nat.sub_self] at this
 rw [<- zS]; exact this
theorem Wk.DK (b : Nat) (hb : h[b]? = some (.rows (rws es c e)) := by kernel_rfl) : Wk K ⟨s, h⟩ ⟨s, h.set b (.fix (e.flatMap (slC c)))⟩ := by
 have := Wk.Ej (K := K) (s := s) b hb
 rwa [s5] at this
theorem Wk.CV (b : Nat) {A : AV} {i j : Int} (hi : inR i e.length = true) (hj : inR j e.length = true) (hne : decide (i ≠ j) = true) (hb : h[b]? = some (.rows ((rws es c e).set i.toNat (.av A))) := by kernel_rfl) :
  Wk K ⟨s, h⟩ ⟨s, h.set b (.rows (((rws es c e).set i.toNat (.av A)).set j.toNat (.av (.hs h.length 0 (gt e j).length es)))) ++ [.own ((gt e j).flatMap c)]⟩ :=
 Wk.Ax b j.toNat hb (yp hi hj hne)
theorem Wk.BS (b n : Nat) {x : List α} {S : AV} {i j : Int} {len : Nat} (hp : ∀ y, cn (c y) = []) (hi : inR i e.length = true) (hj : inR j e.length = true) (hne : decide (i ≠ j) = true) (hl : x.length = len)
  (hb : h[b]? = some (.rows (((rws es c e).set i.toNat (.av (.hs n 0 len es))).set j.toNat (.av S))) := by kernel_rfl) (hn : h[n]? = some (.own (x.flatMap c)) := by kernel_rfl) (hK : Nat.ble K b = true := by kernel_rfl) (hnb : Nat.beq n b = false := by kernel_rfl) :
  Wk K ⟨s, h⟩ ⟨s, (h.set b (.rows ((rws es c (e.set i.toNat x)).set j.toNat (.av S)))).set n .dead⟩ := by
 subst hl
 have hil := ax hi
 have := Wk.zi (K := K) (s := s) b i.toNat n hb (by rw [List.getElem?_set_ne (neT hi hj hne).symm, List.getElem?_set_self (by rw [gI]; exact hil)]) hn (aA hp x) (fun h => cZ h) hK hnb
 rw [List.set_comm _ _ (neT hi hj hne).symm, List.set_set] at this
 rw [<- xi]; exact this
end
section
variable {g : List (Option (List α))} {s : List AV} {h : List Blk}
end
theorem Sn.rw {H : List Blk} {ok : Nat -> Bool} {b : Nat} (hok : ok b = true := by kernel_rfl) (hb : H[b]? = some (.rows (rws es c e)) := by kernel_rfl) : Sn H ok (.hs b 0 e.length 1) (slT (slC c) e) := by
 have := Sn.hsR (len := e.length) hok hb (by rw [s5]; exact aA (gX c) e) (fun h0 => by
  have : e = [] := List.length_eq_zero_iff.1 h0
  subst this; rfl)
 rwa [s5] at this
theorem pKr {H : List Blk} {b : Nat} {l : List (Nat × Bool)} (es : Nat) (c : α -> List AV) (e : List (List α)) (rest : gu H l) (hb : H[b]? = some (.rows (rws es c e)) := by kernel_rfl) : gu H ((b, false) :: l) :=
 ⟨by rw [hb]; exact zV, rest⟩
end
end Go.L

