import Derived.Test.YtndmnfmpbcecaaaSc11hhfbglje
set_option linter.all false
set_option linter.unusedVariables false
set_option linter.unusedSectionVars false
namespace Go.Eng
open Go Go.RowKit
variable [Dr]
variable {K : Nat}
def SimP (π π' : List (Option PB)) : Prop := ∀ (i : Nat) (p : PB), π[i]? = some (some p) → ∃ p' : PB, π'[i]? = some (some p') ∧ p'.blk = p.blk ∧ p'.off = p.off ∧ p'.size = p.size
section
variable {w : World} {mu mu' : Nat → Prop} {π π' : List (Option PB)}
mutual
theorem Rv.sim (hmu : ∀ b, mu' b → mu b) (hπ : SimP π π') : (A : AV) → (v : Value) → Rv w mu π A v → Rv w mu' π' A v
 | .unk, _, _ => trivial
 | .at x, v, h => h
 | .sl nl cs len, v, h => pure_any hmu (.sl nl cs len) v rfl h
 | .pp cs off, v, h => pure_any hmu (.pp cs off) v rfl h
 | .hs b off len es, v, h => by
  rcases h with h | ⟨p, a, cap, h1, h2, h3, h4, h5⟩
  · exact .inl h
  · obtain ⟨p', g1, g2, g3, g4⟩ := hπ b p h1
    exact .inr ⟨p', a, cap, g1, h2, h3, h4, by rw [g2, g3, g4]; exact h5⟩
 | .hp b off, v, h => by
  obtain ⟨p, h1, h2⟩ := h
  obtain ⟨p', g1, g2, g3, g4⟩ := hπ b p h1
  exact ⟨p', g1, by rw [g2, g3]; exact h2⟩
 | .mp b, v, h => by
  obtain ⟨p, h1, h2⟩ := h
  obtain ⟨p', g1, g2, g3, g4⟩ := hπ b p h1
  exact ⟨p', g1, by rw [g2]; exact h2⟩
 | .agg cs, v, h => by
  obtain ⟨vs, rfl, h1⟩ := h
  exact ⟨vs, rfl, RvL.sim hmu hπ cs _ h1⟩
 | .tup cs, v, h => by
  obtain ⟨vs, rfl, h1⟩ := h
  exact ⟨vs, rfl, RvL.sim hmu hπ cs _ h1⟩
 | .fn f fs cs, v, h => by
  obtain ⟨a, c, rfl, h1, h2⟩ := h
  exact ⟨a, c, rfl, RvL.sim hmu hπ fs _ h1, RvL.sim hmu hπ cs _ h2⟩
theorem RvL.sim (hmu : ∀ b, mu' b → mu b) (hπ : SimP π π') : (cs : List AV) → (vs : List Value) → RvL w mu π cs vs → RvL w mu' π' cs vs
 | [], _, h => h
 | c :: cs, _, h => by
  obtain ⟨v, vs', rfl, h1, h2⟩ := h
  exact ⟨v, vs', rfl, Rv.sim hmu hπ c v h1, RvL.sim hmu hπ cs vs' h2⟩
end
theorem RvC.sim (hmu : ∀ b, mu' b → mu b) (hπ : SimP π π') : ∀ (cs : List AV) (b o : Nat), RvC w mu π cs b o → RvC w mu' π' cs b o
 | [], _, _, _ => trivial
 | c :: cs, b, o, h => by
  obtain ⟨⟨v, h1, h2, h3⟩, h4⟩ := h
  exact ⟨⟨v, h1, h2, Rv.sim hmu hπ c v h3⟩, RvC.sim hmu hπ cs b (o + 1) h4⟩
theorem RvM.sim (hmu : ∀ b, mu' b → mu b) (hπ : SimP π π') : ∀ (i : Nat) (es : List (Value × AV)) (l : List MapEntry), RvM w mu π i es l → RvM w mu' π' i es l
 | _, [], _, h => h
 | i, (k, a) :: es, _, h => by
  obtain ⟨e, l', rfl, h2, h0, h3, h4⟩ := h
  exact ⟨e, l', rfl, h2, h0, Rv.sim hmu hπ a _ h3, RvM.sim hmu hπ (i + 1) es l' h4⟩
theorem RcV.sim (hmu : ∀ b, mu' b → mu b) (hπ : SimP π π') {s : Option (Nat × Nat × Nat)} {x : RC} {v : Value} (h : RcV w mu π s x v) : RcV w mu' π' s x v := by
 cases x with
 | row len es cs => exact RowV.lessM hmu h
 | av A => exact ⟨h.1, Rv.sim hmu hπ A v h.2⟩
theorem BlkOk.sim (hmu : ∀ b, mu' b → mu b) (hπ : SimP π π') {p : PB} {x : Blk} (h : BlkOk w mu π p x) : BlkOk w mu' π' p x := by
 cases x with
 | dead => trivial
 | own cs => exact ⟨h.1, RvC.sim hmu hπ cs _ _ h.2⟩
 | fix cs => exact RvC.sim hmu hπ cs _ _ h
 | map es => obtain ⟨a, h1, h2⟩ := h; exact ⟨a, h1, RvM.sim hmu hπ 0 es _ h2⟩
 | iter m n seen =>
  obtain ⟨h0, q, h1, h2⟩ := h
  obtain ⟨q', g1, g2, _⟩ := hπ m q h1
  exact ⟨h0, q', g1, by rw [g2]; exact h2⟩
 | rows rs =>
  obtain ⟨h1, h2, h3⟩ := h
  refine ⟨h1, RvW.of _ _ _ _ fun i x hx => ?_, h3⟩
  obtain ⟨v, v1, v2⟩ := RvW.at h2 hx
  exact ⟨v, v1, v2.sim hmu hπ⟩
end
theorem Wk.turn (b n : Nat) {x y : Blk} {s : List AV} {h : List Blk} (hb : h[b]? = some x) (hm : x.isMut = true) (hK : K ≤ b) (hnb : n ≠ b)
  (hy : ∀ (out B : Nat → Prop) (w : World) (π : List (Option PB)) (p : PB), Inv out B w π h → π[b]? = some (some p) → ∃ f : Nat → Option (Nat × Nat × Nat),
   (∀ c, y.owns { p with subs := f } c → x.owns p c ∨ ∃ z q, h[n]? = some z ∧ z.isMut = true ∧ π[n]? = some (some q) ∧ z.owns q c) ∧
   ∀ (mu' : Nat → Prop) (π' : List (Option PB)), (∀ c, mu' c → muOf out π h c) → SimP π π' → BlkOk w mu' π' { p with subs := f } y) :
  Wk K ⟨s, h⟩ ⟨s, (h.set b y).set n .dead⟩ := fun out B w π a hR => by
 have hI := hR.inv
 have hl := hI.len
 simp only at hI hl
 have hbl := getElem?_lt hb
 have split0 : ∀ {j : Nat} {z : Blk}, ((h.set b y).set n .dead)[j]? = some z → z.isLive = true → (j = b ∧ z = y) ∨ (j ≠ b ∧ j ≠ n ∧ h[j]? = some z) := by
  intro j z g1 g2
  rcases set_get g1 with ⟨_, rfl⟩ | ⟨hn, g1⟩
  · cases g2
  · rcases set_get g1 with ⟨rfl, rfl⟩ | ⟨hb', g1⟩
    · exact .inl ⟨rfl, rfl⟩
    · exact .inr ⟨fun e => hb' e.symm, fun e => hn e.symm, g1⟩
 cases hp : π[b]? with
 | none => have := List.getElem?_eq_none_iff.1 hp; omega
 | some op =>
  cases op with
  | none =>
   have hmu : ∀ c, muOf out π ((h.set b y).set n .dead) c → muOf out π h c := by
    rintro c (ho | ⟨j, z, q, g1, g2, g3, g4⟩)
    · exact .inl ho
    · rcases split0 g1 (Blk.live_of_mut g2) with ⟨rfl, _⟩ | ⟨_, _, g1⟩
      · rw [hp] at g3; cases g3
      · exact .inr ⟨j, z, q, g1, g2, g3, g4⟩
   have hE : Ext B w w (muOf out π h) (muOf out π ((h.set b y).set n .dead)) π π := ⟨fun _ _ => rfl, Nat.le_refl _, fun c _ hc => ⟨rfl, fun hc' => hc (hmu c hc')⟩, fun _ _ h => h, rfl, rfl, rfl, fun _ => Nat.le_refl _⟩
   refine ⟨π, ⟨hR.defers, RvL.ext hE _ _ hR.slots, ⟨by simp [hl], hI.bound, hI.out_lt, ?_, ?_, ?_⟩⟩, hmu, PinK.refl π⟩
   · intro j z q c g1 g2 g3
     rcases split0 g1 (Blk.live_owns g3) with ⟨rfl, _⟩ | ⟨_, _, g1⟩
     · rw [hp] at g2; cases g2
     · exact hI.baseO j z q c g1 g2 g3
   · intro j z q g1 g2
     cases hz : z.isLive with
     | false => cases z <;> simp_all [Blk.isLive, BlkOk]
     | true =>
      rcases split0 g1 hz with ⟨rfl, _⟩ | ⟨_, _, g1⟩
      · rw [hp] at g2; cases g2
      · exact BlkOk.ext hE (fun _ _ => rfl) (hI.ok j z q g1 g2)
   · intro i j z t q r c hij g1 g2 g3 g4 g5 g6 g7
     rcases split0 g1 (Blk.live_of_mut g5) with ⟨rfl, _⟩ | ⟨_, _, g1⟩
     · rw [hp] at g3; cases g3
     · rcases split0 g2 (Blk.live_owns g7) with ⟨rfl, _⟩ | ⟨_, _, g2⟩
       · rw [hp] at g4; cases g4
       · exact hI.sepO i j z t q r c hij g1 g2 g3 g4 g5 g6 g7
  | some p =>
   obtain ⟨f, hox, hok⟩ := hy out B w π p hI hp
   have hsim : SimP π (π.set b (some { p with subs := f })) := by
    intro i q hq
    by_cases hib : i = b
    · subst hib
      rw [hp] at hq; cases hq
      exact ⟨{ p with subs := f }, by rw [List.getElem?_set_self (by omega)], rfl, rfl, rfl⟩
    · exact ⟨q, by rw [List.getElem?_set_ne (fun e => hib e.symm)]; exact hq, rfl, rfl, rfl⟩
   have split : ∀ {j : Nat} {z : Blk} {q : PB}, ((h.set b y).set n .dead)[j]? = some z → (π.set b (some { p with subs := f }))[j]? = some (some q) → z.isLive = true → (j = b ∧ z = y ∧ q = { p with subs := f }) ∨ (j ≠ b ∧ j ≠ n ∧ h[j]? = some z ∧ π[j]? = some (some q)) := by
    intro j z q g1 g2 g3
    rcases split0 g1 g3 with ⟨rfl, rfl⟩ | ⟨k1, k2, g1⟩
    · rw [List.getElem?_set_self (by omega)] at g2; cases g2; exact .inl ⟨rfl, rfl, rfl⟩
    · rw [List.getElem?_set_ne (fun e => k1 e.symm)] at g2; exact .inr ⟨k1, k2, g1, g2⟩
   have hmu : ∀ c, muOf out (π.set b (some { p with subs := f })) ((h.set b y).set n .dead) c → muOf out π h c := by
    rintro c (ho | ⟨j, z, q, g1, g2, g3, g4⟩)
    · exact .inl ho
    · rcases split g1 g3 (Blk.live_of_mut g2) with ⟨rfl, rfl, rfl⟩ | ⟨_, _, g1, g3⟩
      · rcases hox c g4 with h1 | ⟨z, q, h1, h2, h3, h4⟩
        · exact .inr ⟨j, x, p, hb, hm, hp, h1⟩
        · exact .inr ⟨n, z, q, h1, h2, h3, h4⟩
      · exact .inr ⟨j, z, q, g1, g2, g3, g4⟩
   refine ⟨π.set b (some { p with subs := f }), ⟨hR.defers, RvL.sim hmu hsim _ _ hR.slots, ⟨by simp [hl], hI.bound, hI.out_lt, ?_, ?_, ?_⟩⟩, hmu, fun i hi q hq => ?_⟩
   · intro j z q c g1 g2 g3
     rcases split g1 g2 (Blk.live_owns g3) with ⟨rfl, rfl, rfl⟩ | ⟨_, _, g1, g2⟩
     · rcases hox c g3 with h1 | ⟨z, q, h1, h2, h3, h4⟩
       · exact hI.baseO j x p c hb hp h1
       · exact hI.baseO n z q c h1 h3 h4
     · exact hI.baseO j z q c g1 g2 g3
   · intro j z q g1 g2
     cases hz : z.isLive with
     | false => cases z <;> simp_all [Blk.isLive, BlkOk]
     | true =>
      rcases split g1 g2 hz with ⟨rfl, rfl, rfl⟩ | ⟨_, _, g1, g2⟩
      · exact hok _ _ hmu hsim
      · exact BlkOk.sim hmu hsim (hI.ok j z q g1 g2)
   · intro i j z t q r c hij g1 g2 g3 g4 g5 g6 g7
     rcases split g1 g3 (Blk.live_of_mut g5) with ⟨rfl, rfl, rfl⟩ | ⟨i1, i2, m1, m3⟩
     · rcases split g2 g4 (Blk.live_owns g7) with ⟨rfl, _, _⟩ | ⟨j1, j2, g2, g4⟩
       · exact (hij rfl).elim
       · rcases hox c g6 with h1 | ⟨z, q, h1, h2, h3, h4⟩
         · exact hI.sepO i j x t p r c hij hb g2 hp g4 hm h1 g7
         · exact hI.sepO n j z t q r c (fun e => j2 e.symm) h1 g2 h3 g4 h2 h4 g7
     · rcases split g2 g4 (Blk.live_owns g7) with ⟨rfl, rfl, rfl⟩ | ⟨j1, j2, g2, g4⟩
       · rcases hox c g7 with h1 | ⟨z', q', h1, h2, h3, h4⟩
         · exact hI.sepO i j z x q p c hij m1 hb m3 hp g5 g6 h1
         · exact hI.sepO i n z z' q q' c i2 m1 h1 m3 h3 g5 g6 h4
       · exact hI.sepO i j z t q r c hij m1 g2 m3 g4 g5 g6 g7
   · rw [List.getElem?_set_ne (by omega)]; exact hq
theorem Wk.turn1 (b : Nat) {x y : Blk} {s : List AV} {h : List Blk} (hb : h[b]? = some x) (hm : x.isMut = true) (hK : K ≤ b)
  (hy : ∀ (out B : Nat → Prop) (w : World) (π : List (Option PB)) (p : PB), Inv out B w π h → π[b]? = some (some p) → ∃ f : Nat → Option (Nat × Nat × Nat),
   (∀ c, y.owns { p with subs := f } c → x.owns p c) ∧
   ∀ (mu' : Nat → Prop) (π' : List (Option PB)), (∀ c, mu' c → muOf out π h c) → SimP π π' → BlkOk w mu' π' { p with subs := f } y) :
  Wk K ⟨s, h⟩ ⟨s, h.set b y⟩ := by
 have hbl := getElem?_lt hb
 have := Wk.turn (K := K) (s := s) b h.length (y := y) hb hm hK (by omega) (fun out B w π p hI hp => by
  obtain ⟨f, h1, h2⟩ := hy out B w π p hI hp
  exact ⟨f, fun c hc => .inl (h1 c hc), h2⟩)
 rwa [List.set_eq_of_length_le (by simp)] at this
theorem zeros_get1 (A : AV) : ∀ (n i : Nat), i < n → (zerosA [A] n)[i]? = some A
 | 0, i, h => by omega
 | n + 1, 0, _ => rfl
 | n + 1, i + 1, h => by simpa [zerosA] using zeros_get1 A n i (by omega)
theorem Wk.mkRows (b es n : Nat) {s : List AV} {h : List Blk} (hb : h[b]? = some (.own (zerosA [.at (.slice none 0 0)] n))) (hK : Nat.ble K b = true := by kernel_rfl) : Wk K ⟨s, h⟩ ⟨s, h.set b (.rows (List.replicate n (.row 0 es [])))⟩ :=
 Wk.turn1 b hb rfl (Nat.le_of_ble_eq_true hK) fun out B w π p hI hp => by
  refine ⟨fun _ => none, ?_, fun mu' π' hmu hπ => ?_⟩
  · rintro c (h | ⟨k, l, e, cs, q, _, h, _⟩)
    · exact h
    · cases h
  · obtain ⟨h1, h2⟩ := hI.ok b _ p hb hp
    refine ⟨h1, RvW.of _ _ _ _ fun i x hx => ?_, And.intro (fun k l e cs q _ h => by cases h) (fun k k' l e l2 e2 cs cs2 q q' _ _ _ h => by cases h)⟩
    have hi : i < n := by have := getElem?_lt hx; simpa using this
    have hx : x = .row 0 es [] := by
     have := List.mem_of_getElem? hx
     exact (List.mem_replicate.1 this).2
    subst hx
    obtain ⟨v, v1, v2, v3⟩ := RvC.get _ _ _ i _ h2 (zeros_get1 _ n i hi)
    exact ⟨v, v1, .inl ⟨rfl, rfl, v3⟩⟩
theorem Wk.openR (b k : Nat) {rs : List RC} {len es : Nat} {cs : List AV} {s : List AV} {h : List Blk} (hb : h[b]? = some (.rows rs)) (hk : rs[k]? = some (.row len es cs)) :
  Wk K ⟨s, h⟩ ⟨s, h.set b (.rows (rs.set k (.av (.hs h.length 0 len es)))) ++ [.own cs]⟩ := fun out B w π a hR => by
 have hI := hR.inv
 have hl := hI.len
 simp only at hI hl
 have hbl := getElem?_lt hb
 have hkl := getElem?_lt hk
 have rowsOf : ∀ {k' len' es' : Nat} {cs' : List AV}, (rs.set k (.av (.hs h.length 0 len es)))[k']? = some (.row len' es' cs') → k' ≠ k ∧ rs[k']? = some (.row len' es' cs') := by
  intro k' len' es' cs' g
  rcases set_get g with ⟨_, e⟩ | ⟨hne, g⟩
  · cases e
  · exact ⟨fun e => hne e.symm, g⟩
 obtain ⟨o, ho1, ho2⟩ : ∃ o : Option PB, (∀ q, o = some q → ∃ (p : PB) (sq : Nat × Nat × Nat), π[b]? = some (some p) ∧ p.subs k = some sq ∧ q = ⟨sq.1, sq.2.1, sq.2.2, fun _ => none⟩ ∧
   (∃ c e, w.heap[q.blk]? = some (.cells c e (0, 0)) ∧ c.size = q.size) ∧ RvC w (muOf out π h) [] cs q.blk q.off) ∧
   ∀ p, π[b]? = some (some p) → ∃ v, w.cell? ⟨p.blk, p.off + k, none⟩ = some v ∧ v.oneCell' = true ∧ ((len = 0 ∧ v = .slice none 0 0) ∨ ∃ (q : PB) (a : Addr) (cap : Nat), o = some q ∧ v = .slice (some a) len cap ∧ len ≤ cap ∧ a.spot = none ∧ (0 < cap → a = ⟨q.blk, q.off + 0, none⟩ ∧ q.off + 0 + cap * es ≤ q.size)) := by
  cases hp : π[b]? with
  | none => exact ⟨none, And.intro (fun _ e => by cases e) (fun _ e => by cases e)⟩
  | some op =>
   cases op with
   | none => exact ⟨none, And.intro (fun _ e => by cases e) (fun _ e => by cases e)⟩
   | some p =>
    obtain ⟨v, v1, v2⟩ := RvW.row rs _ _ _ k len es cs (hI.ok b _ p hb hp).2.1 hk
    rcases v2 with ⟨rfl, rfl, rfl⟩ | ⟨q, a, cap, c, e, g1, rfl, g3, g4, g5, g6, g7, g0, g8⟩
    · exact ⟨none, And.intro (fun _ e => by cases e) (fun p' e => by cases e; exact ⟨_, v1, rfl, .inl ⟨rfl, rfl⟩⟩)⟩
    · refine ⟨some ⟨q.1, q.2.1, q.2.2, fun _ => none⟩, And.intro (fun q' e => ?_) (fun p' e => ?_)⟩
      · cases e; exact ⟨p, q, rfl, g1, rfl, ⟨c, _, g6, g7⟩, g8⟩
      · cases e; exact ⟨_, v1, rfl, .inr ⟨_, a, cap, rfl, rfl, g3, g4, g5⟩⟩
 have split : ∀ {j : Nat} {z : Blk} {q : PB}, (h.set b (.rows (rs.set k (.av (.hs h.length 0 len es)))) ++ [.own cs])[j]? = some z → (π ++ [o])[j]? = some (some q) →
   (j = b ∧ z = .rows (rs.set k (.av (.hs h.length 0 len es))) ∧ π[b]? = some (some q)) ∨ (j = h.length ∧ z = .own cs ∧ o = some q) ∨ (j ≠ b ∧ j ≠ h.length ∧ h[j]? = some z ∧ π[j]? = some (some q)) := by
  intro j z q g1 g2
  by_cases hj : j < h.length
  · rw [List.getElem?_append_left (by simpa using hj)] at g1
    rw [List.getElem?_append_left (by omega)] at g2
    rcases set_get g1 with ⟨rfl, rfl⟩ | ⟨hne, g1⟩
    · exact .inl ⟨rfl, rfl, g2⟩
    · exact .inr (.inr ⟨fun e => hne e.symm, by omega, g1, g2⟩)
  · have hjl := getElem?_lt g1
    simp at hjl
    obtain rfl : j = h.length := by omega
    rw [List.getElem?_append_right (by simp)] at g1
    rw [List.getElem?_append_right (by omega)] at g2
    simp at g1
    rw [hl] at g2
    simp at g2
    exact .inr (.inl ⟨rfl, g1.symm, g2⟩)
 have part1 : ∀ {p : PB} {c : Nat}, (Blk.rows (rs.set k (.av (.hs h.length 0 len es)))).owns p c → (Blk.rows rs).owns p c := by
  rintro p c (g | ⟨k', l', e', c', q, g1, g2, g3⟩)
  · exact .inl g
  · exact .inr ⟨k', l', e', c', q, (rowsOf g1).2, g2, g3⟩
 have part2 : ∀ {q : PB} {c : Nat}, o = some q → (Blk.own cs).owns q c → ∃ p, π[b]? = some (some p) ∧ (Blk.rows rs).owns p c := by
  intro q c g1 g2
  obtain ⟨p, sq, e1, e2, rfl, _⟩ := ho1 q g1
  exact ⟨p, e1, .inr ⟨k, len, es, cs, sq, hk, e2, g2⟩⟩
 have hmu : ∀ c, muOf out (π ++ [o]) (h.set b (.rows (rs.set k (.av (.hs h.length 0 len es)))) ++ [.own cs]) c → muOf out π h c := by
  rintro c (ho | ⟨j, z, q, g1, g2, g3, g4⟩)
  · exact .inl ho
  · rcases split g1 g3 with ⟨rfl, rfl, g3⟩ | ⟨rfl, rfl, g3⟩ | ⟨_, _, g1, g3⟩
    · exact .inr ⟨j, _, q, hb, rfl, g3, part1 g4⟩
    · obtain ⟨p, e1, e2⟩ := part2 g3 g4
      exact .inr ⟨b, _, p, hb, rfl, e1, e2⟩
    · exact .inr ⟨j, z, q, g1, g2, g3, g4⟩
 have hE : Ext B w w (muOf out π h) (muOf out (π ++ [o]) (h.set b (.rows (rs.set k (.av (.hs h.length 0 len es)))) ++ [.own cs])) π (π ++ [o]) := ⟨fun _ _ => rfl, Nat.le_refl _, fun c _ hc => ⟨rfl, fun hc' => hc (hmu c hc')⟩, fun i q hq => by
  rw [List.getElem?_append_left (getElem?_lt hq)]; exact hq, rfl, rfl, rfl, fun _ => Nat.le_refl _⟩
 have apart : ∀ {p q : PB} {c : Nat}, π[b]? = some (some p) → o = some q → (Blk.rows (rs.set k (.av (.hs h.length 0 len es)))).owns p c → ¬ (Blk.own cs).owns q c := by
  rintro p q c hp hq hc e
  have e : q.blk = c := e
  obtain ⟨p', sq, e1, e2, rfl, _⟩ := ho1 q hq
  rw [hp] at e1; cases e1
  obtain ⟨_, _, s1, s2⟩ := hI.ok b _ p hb hp
  rcases hc with g | ⟨k', l', e', c', q', g1, g2, g3⟩
  · exact s1 k len es cs sq hk e2 (e.trans g.symm)
  · exact s2 k k' len es l' e' cs c' sq q' (fun e => (rowsOf g1).1 e.symm) hk (rowsOf g1).2 e2 g2 (e.trans g3.symm)
 refine ⟨π ++ [o], ⟨hR.defers, RvL.ext hE _ _ hR.slots, ⟨by simp [hl], hI.bound, hI.out_lt, ?_, ?_, ?_⟩⟩, hmu, hE.pin⟩
 · intro j z q c g1 g2 g3
   rcases split g1 g2 with ⟨rfl, rfl, g2⟩ | ⟨rfl, rfl, g2⟩ | ⟨_, _, g1, g2⟩
   · exact hI.baseO j _ q c hb g2 (part1 g3)
   · obtain ⟨p, e1, e2⟩ := part2 g2 g3
     exact hI.baseO b _ p c hb e1 e2
   · exact hI.baseO j z q c g1 g2 g3
 · intro j z q g1 g2
   rcases split g1 g2 with ⟨rfl, rfl, g2⟩ | ⟨rfl, rfl, g2⟩ | ⟨_, _, g1, g2⟩
   · obtain ⟨h1, h2, s1, s2⟩ := hI.ok j _ q hb g2
     refine ⟨h1, RvW.of _ _ _ _ fun i x hx => ?_, And.intro (fun k' l' e' c' q' g1 g2 => s1 k' l' e' c' q' (rowsOf g1).2 g2) (fun k1 k2 l1 e1 l2 e2 c1 c2 q1 q2 hk g1 g2 g3 g4 => s2 k1 k2 l1 e1 l2 e2 c1 c2 q1 q2 hk (rowsOf g1).2 (rowsOf g2).2 g3 g4)⟩
     rcases set_get hx with ⟨rfl, rfl⟩ | ⟨hne, hx⟩
     · obtain ⟨v, v1, v2, v3⟩ := ho2 q g2
       refine ⟨v, v1, v2, ?_⟩
       rcases v3 with v3 | ⟨q', a', cap, v3, v4⟩
       · exact .inl v3
       · exact .inr ⟨q', a', cap, by rw [← hl, List.getElem?_append_right (Nat.le_refl _), Nat.sub_self]; simp [v3], v4⟩
     · obtain ⟨v, v1, v2⟩ := RvW.at h2 hx
       exact ⟨v, v1, v2.ext hE (fun _ _ _ _ _ _ => rfl)⟩
   · obtain ⟨p, sq, e1, e2, _, e4, e5⟩ := ho1 q g2
     exact ⟨e4, (RvC.ext (hE.pure) cs _ _ rfl e5).lift⟩
   · exact BlkOk.ext hE (fun _ _ => rfl) (hI.ok j z q g1 g2)
 · intro i j z t q r c hij g1 g2 g3 g4 g5 g6 g7
   rcases split g1 g3 with ⟨rfl, rfl, g3⟩ | ⟨rfl, rfl, g3⟩ | ⟨i1, _, m1, m3⟩
   · rcases split g2 g4 with ⟨rfl, _, _⟩ | ⟨rfl, rfl, g4⟩ | ⟨_, _, g2, g4⟩
     · exact hij rfl
     · exact apart g3 g4 g6 g7
     · exact hI.sepO i j _ t q r c hij hb g2 g3 g4 rfl (part1 g6) g7
   · rcases split g2 g4 with ⟨rfl, rfl, g4⟩ | ⟨rfl, _, _⟩ | ⟨j1, _, g2, g4⟩
     · exact apart g4 g3 g7 g6
     · exact hij rfl
     · obtain ⟨p, e1, e2⟩ := part2 g3 g6
       exact hI.sepO b j _ t p r c (fun e => j1 e.symm) hb g2 e1 g4 rfl e2 g7
   · rcases split g2 g4 with ⟨rfl, rfl, g4⟩ | ⟨rfl, rfl, g4⟩ | ⟨_, _, g2, g4⟩
     · exact hI.sepO i j z _ q r c hij m1 hb m3 g4 g5 g6 (part1 g7)
     · obtain ⟨p, e1, e2⟩ := part2 g4 g7
       exact hI.sepO i b z _ q p c i1 m1 hb m3 e1 g5 g6 e2
     · exact hI.sepO i j z t q r c hij m1 g2 m3 g4 g5 g6 g7
theorem Wk.closeR (b k n : Nat) {rs : List RC} {len es : Nat} {cs : List AV} {s : List AV} {h : List Blk} (hb : h[b]? = some (.rows rs)) (hk : rs[k]? = some (.av (.hs n 0 len es))) (hn : h[n]? = some (.own cs)) (hp0 : idsOfL cs = []) (h0 : len = 0 → cs = []) (hK : Nat.ble K b = true := by kernel_rfl) (hnb : Nat.beq n b = false := by kernel_rfl) :
  Wk K ⟨s, h⟩ ⟨s, (h.set b (.rows (rs.set k (.row len es cs)))).set n .dead⟩ :=
 have hnb : n ≠ b := fun e => by rw [e] at hnb; have := Nat.beq_refl b; rw [hnb] at this; cases this
 Wk.turn b n hb rfl (Nat.le_of_ble_eq_true hK) hnb fun out B w π p hI hp => by
  have hkl := getElem?_lt hk
  obtain ⟨h1, h2, s1, s2⟩ := hI.ok b _ p hb hp
  obtain ⟨v, v1, v2, v3⟩ := RvW.av rs _ _ _ k _ h2 hk
  have rowsOf : ∀ {k' len' es' : Nat} {cs' : List AV}, (rs.set k (.row len es cs))[k']? = some (.row len' es' cs') → k' ≠ k → rs[k']? = some (.row len' es' cs') := by
   intro k' len' es' cs' g hne
   rcases set_get g with ⟨e, _⟩ | ⟨_, g⟩
   · exact (hne e.symm).elim
   · exact g
  let f : Nat → Option (Nat × Nat × Nat) := fun i => if i = k then (match π[n]? with | some (some q) => some (q.blk, q.off, q.size) | _ => none) else p.subs i
  have fk : ∀ {sq : Nat × Nat × Nat}, f k = some sq → ∃ q, π[n]? = some (some q) ∧ sq = (q.blk, q.off, q.size) := by
   intro sq e
   simp only [f, if_true] at e
   split at e
   · rename_i q hq; cases e; exact ⟨q, hq, rfl⟩
   · cases e
  have fo : ∀ {i : Nat}, i ≠ k → f i = p.subs i := fun hi => by simp only [f, if_neg hi]
  refine ⟨f, ?_, fun mu' π' hmu hπ => ⟨h1, RvW.of _ _ _ _ fun i x hx => ?_, And.intro ?_ ?_⟩⟩
  · rintro c (g | ⟨k', l', e', c', q, g1, g2, g3⟩)
    · exact .inl (.inl g)
    · by_cases hkk : k' = k
      · subst hkk
        obtain ⟨q', e1, rfl⟩ := fk g2
        exact .inr ⟨_, q', hn, rfl, e1, g3⟩
      · exact .inl (.inr ⟨k', l', e', c', q, rowsOf g1 hkk, (fo hkk).symm.trans g2, g3⟩)
  · rcases set_get hx with ⟨rfl, rfl⟩ | ⟨hne, hx⟩
    · refine ⟨v, v1, ?_⟩
      rcases v3 with ⟨e1, e2⟩ | ⟨q, a, cap, g1, g2, g3, g4, g5⟩
      · exact .inl ⟨e1, h0 e1, e2⟩
      · obtain ⟨⟨c, e, o1, o2⟩, o3⟩ := hI.ok n _ q hn g1
        refine .inr ⟨(q.blk, q.off, q.size), a, cap, c, e, ?_, g2, g3, g4, by simpa using g5, o1, o2, h0, pureC_any hmu cs _ _ hp0 o3⟩
        simp only [f, if_true, g1]
    · obtain ⟨u, u1, u2⟩ := RvW.at h2 hx
      exact ⟨u, u1, by show RcV w mu' π' (f i) x u; rw [fo (fun e => hne e.symm)]; exact u2.sim hmu hπ⟩
  · intro k' l' e' c' q g1 g2
    by_cases hkk : k' = k
    · subst hkk
      obtain ⟨q', e1, rfl⟩ := fk g2
      exact fun e => hI.sepO n b _ _ q' p p.blk hnb hn hb e1 hp rfl e (.inl rfl)
    · exact s1 k' l' e' c' q (rowsOf g1 hkk) ((fo hkk).symm.trans g2)
  · intro k1 k2 l1 e1 l2 e2 c1 c2 q1 q2 hk12 g1 g2 g3 g4
    by_cases hk1 : k1 = k
    · subst hk1
      have hk2 : k2 ≠ k1 := fun e => hk12 e.symm
      obtain ⟨q', i1, rfl⟩ := fk g3
      exact fun e => hI.sepO n b _ _ q' p q2.1 hnb hn hb i1 hp rfl e (.inr ⟨k2, l2, e2, c2, q2, rowsOf g2 hk2, (fo hk2).symm.trans g4, rfl⟩)
    · by_cases hk2 : k2 = k
      · subst hk2
        obtain ⟨q', i1, rfl⟩ := fk g4
        exact fun e => hI.sepO n b _ _ q' p q1.1 hnb hn hb i1 hp rfl e.symm (.inr ⟨k1, l1, e1, c1, q1, rowsOf g1 hk1, (fo hk1).symm.trans g3, rfl⟩)
      · exact s2 k1 k2 l1 e1 l2 e2 c1 c2 q1 q2 hk12 (rowsOf g1 hk1) (rowsOf g2 hk2) ((fo hk1).symm.trans g3) ((fo hk2).symm.trans g4)
theorem Wk.nilR (b k es : Nat) {rs : List RC} {s : List AV} {h : List Blk} (hb : h[b]? = some (.rows rs)) (hk : rs[k]? = some (.av (.at (.slice none 0 0)))) (hK : Nat.ble K b = true := by kernel_rfl) :
  Wk K ⟨s, h⟩ ⟨s, h.set b (.rows (rs.set k (.row 0 es [])))⟩ :=
 Wk.turn1 b hb rfl (Nat.le_of_ble_eq_true hK) fun out B w π p hI hp => by
  obtain ⟨h1, h2, s1, s2⟩ := hI.ok b _ p hb hp
  obtain ⟨v, v1, v2, v3⟩ := RvW.av rs _ _ _ k _ h2 hk
  have rowsOf : ∀ {k' len' es' : Nat} {cs' : List AV}, (rs.set k (.row 0 es []))[k']? = some (.row len' es' cs') → k' ≠ k → rs[k']? = some (.row len' es' cs') := by
   intro k' len' es' cs' g hne
   rcases set_get g with ⟨e, _⟩ | ⟨_, g⟩
   · exact (hne e.symm).elim
   · exact g
  have ne : ∀ {i : Nat} {q : Nat × Nat × Nat}, (fun i => if i = k then none else p.subs i : Nat → Option (Nat × Nat × Nat)) i = some q → i ≠ k ∧ p.subs i = some q := by
   intro i q e
   simp only at e
   split at e
   · cases e
   · rename_i hi; exact ⟨hi, e⟩
  refine ⟨fun i => if i = k then none else p.subs i, ?_, fun mu' π' hmu hπ => ⟨h1, RvW.of _ _ _ _ fun i x hx => ?_, And.intro ?_ ?_⟩⟩
  · rintro c (g | ⟨k', l', e', c', q, g1, g2, g3⟩)
    · exact .inl g
    · obtain ⟨i1, i2⟩ := ne g2
      exact .inr ⟨k', l', e', c', q, rowsOf g1 i1, i2, g3⟩
  · rcases set_get hx with ⟨rfl, rfl⟩ | ⟨hne, hx⟩
    · exact ⟨v, v1, .inl ⟨rfl, rfl, v3⟩⟩
    · obtain ⟨u, u1, u2⟩ := RvW.at h2 hx
      refine ⟨u, u1, ?_⟩
      show RcV w mu' π' (if i = k then none else p.subs i) x u
      rw [if_neg (fun e => hne e.symm)]; exact u2.sim hmu hπ
  · intro k' l' e' c' q g1 g2
    obtain ⟨i1, i2⟩ := ne g2
    exact s1 k' l' e' c' q (rowsOf g1 i1) i2
  · intro k1 k2 l1 e1 l2 e2 c1 c2 q1 q2 hk12 g1 g2 g3 g4
    obtain ⟨i1, i2⟩ := ne g3
    obtain ⟨j1, j2⟩ := ne g4
    exact s2 k1 k2 l1 e1 l2 e2 c1 c2 q1 q2 hk12 (rowsOf g1 i1) (rowsOf g2 j1) i2 j2
theorem Wk.fixR (b : Nat) {rs : List RC} {s : List AV} {h : List Blk} (hb : h[b]? = some (.rows rs)) : Wk K ⟨s, h⟩ ⟨s, h.set b (.fix (rs.map frz))⟩ := fun out B w π a hR => by
 obtain ⟨g1, g2⟩ := hR.inv.freezeR (b := b) hb
 have hu : upd h b (.fix (rs.map frz)) = h.set b (.fix (rs.map frz)) := by simp [upd, getElem?_lt hb]
 rw [hu] at g1 g2
 exact ⟨π, ⟨hR.defers, RvL.ext g2 _ _ hR.slots, g1⟩, Ext.mu_mono g1 g2, PinK.refl π⟩
theorem Wk.ownR (b : Nat) {rs : List RC} {s : List AV} {h : List Blk} (hb : h[b]? = some (.rows rs)) : Wk K ⟨s, h⟩ ⟨s, h.set b (.own (rs.map frz))⟩ := fun out B w π a hR => by
 have hI := hR.inv
 simp only at hI
 have hlt : b < h.length := getElem?_lt hb
 have hfo : ∀ {p : PB} {c : Nat}, (Blk.own (rs.map frz)).owns p c → (Blk.rows rs).owns p c := fun h => .inl h
 have hmuiff : ∀ x, muOf out π (h.set b (.own (rs.map frz))) x → muOf out π h x := by
  rintro x (ho | ⟨i, y, p, g1, g2, g3, g4⟩)
  · exact .inl ho
  · rcases set_get g1 with ⟨rfl, rfl⟩ | ⟨_, g1'⟩
    · exact .inr ⟨_, _, p, hb, rfl, g3, hfo g4⟩
    · exact .inr ⟨i, y, p, g1', g2, g3, g4⟩
 have hno : ∀ (p : PB) (k len es : Nat) (cs : List AV) (q : Nat × Nat × Nat), π[b]? = some (some p) → rs[k]? = some (.row len es cs) → p.subs k = some q → ¬ muOf out π (h.set b (.own (rs.map frz))) q.1 := by
  rintro p k len es cs q hp h1 h2 (ho | ⟨i, y, r, g1, g2, g3, g4⟩)
  · exact (hI.baseO b _ p q.1 hb hp (.inr ⟨k, len, es, cs, q, h1, h2, rfl⟩)).1 (hI.out_lt _ ho)
  · rcases set_get g1 with ⟨rfl, rfl⟩ | ⟨hne, g1'⟩
    · rw [hp] at g3; cases g3
      have g4 : p.blk = q.1 := g4
      exact (hI.ok _ _ p hb hp).2.2.1 k len es cs q h1 h2 g4.symm
    · exact hI.sepO i b y _ r p q.1 (fun e => hne e.symm) g1' hb g3 hp g2 g4 (.inr ⟨k, len, es, cs, q, h1, h2, rfl⟩)
 have hE : Ext B w w (muOf out π h) (muOf out π (h.set b (.own (rs.map frz)))) π π := ⟨fun _ _ => rfl, Nat.le_refl _, fun x _ hx => ⟨rfl, fun hx' => hx (hmuiff x hx')⟩, fun _ _ h => h, rfl, rfl, rfl, fun _ => Nat.le_refl _⟩
 refine ⟨π, ⟨hR.defers, RvL.ext hE _ _ hR.slots, ⟨by simp [hI.len], hI.bound, hI.out_lt, ?_, ?_, ?_⟩⟩, hmuiff, PinK.refl π⟩
 · intro i x q c g1 g2 g3
   rcases set_get g1 with ⟨rfl, rfl⟩ | ⟨_, g1'⟩
   · exact hI.baseO _ _ q c hb g2 (hfo g3)
   · exact hI.baseO i x q c g1' g2 g3
 · intro i x q g1 g2
   rcases set_get g1 with ⟨rfl, rfl⟩ | ⟨_, g1'⟩
   · exact ⟨(hI.ok _ _ q hb g2).1, RvW.frz hmuiff rs _ _ _ (fun k len es cs s e1 e2 => hno q k len es cs s g2 e1 e2) (hI.ok _ _ q hb g2).2.1⟩
   · exact BlkOk.ext hE (fun _ _ => rfl) (hI.ok i x q g1' g2)
 · intro i j x y q r c hij g1 g2 g3 g4 g5 g6 g7
   rcases set_get g1 with ⟨rfl, rfl⟩ | ⟨_, g1'⟩
   · rcases set_get g2 with ⟨rfl, _⟩ | ⟨_, g2'⟩
     · exact hij rfl
     · exact hI.sepO _ j _ y q r c hij hb g2' g3 g4 rfl (hfo g6) g7
   · rcases set_get g2 with ⟨rfl, rfl⟩ | ⟨_, g2'⟩
     · exact hI.sepO i _ x _ q r c hij g1' hb g3 g4 g5 g6 (hfo g7)
     · exact hI.sepO i j x y q r c hij g1' g2' g3 g4 g5 g6 g7
theorem Wk.cellW (b j : Nat) {A A' : AV} {rs : List RC} {s : List AV} {h : List Blk} (hA : ∀ (out : Nat → Prop) (B : Nat → Prop) (w : World) (π : List (Option PB)) (v : Value), Inv out B w π h → Rv w (muOf out π h) π A v → Rv w (muOf out π h) π A' v)
  (hb : h[b]? = some (.rows rs)) (hc : rs[j]? = some (.av A)) : Wk K ⟨s, h⟩ ⟨s, h.set b (.rows (rs.set j (.av A')))⟩ := fun out B w π a hR => by
 have hI := hR.inv
 have hil := getElem?_lt hb
 have hjl := getElem?_lt hc
 have row : ∀ {k len es : Nat} {cs : List AV}, (rs.set j (.av A'))[k]? = some (.row len es cs) ↔ rs[k]? = some (.row len es cs) := by
  intro k len es cs
  by_cases e : k = j
  · subst e
    rw [List.getElem?_set_self hjl, hc]
    exact ⟨fun h => (by cases h), fun h => (by cases h)⟩
  · rw [List.getElem?_set_ne (fun e' => e e'.symm)]
 have how : ∀ {p : PB} {c : Nat}, (Blk.rows (rs.set j (.av A'))).owns p c ↔ (Blk.rows rs).owns p c := by
  intro p c
  constructor
  · rintro (h | ⟨k, len, es, cs, q, h1, h2, h3⟩)
    · exact .inl h
    · exact .inr ⟨k, len, es, cs, q, row.1 h1, h2, h3⟩
  · rintro (h | ⟨k, len, es, cs, q, h1, h2, h3⟩)
    · exact .inl h
    · exact .inr ⟨k, len, es, cs, q, row.2 h1, h2, h3⟩
 have g : ∀ {k : Nat} {x : Blk}, (h.set b (.rows (rs.set j (.av A'))))[k]? = some x → (k = b ∧ x = .rows (rs.set j (.av A'))) ∨ (k ≠ b ∧ h[k]? = some x) := by
  intro k x hk
  by_cases hki : k = b
  · subst hki
    rw [List.getElem?_set_self hil] at hk
    exact .inl ⟨rfl, (Option.some.inj hk).symm⟩
  · rw [List.getElem?_set_ne (fun e => hki e.symm)] at hk
    exact .inr ⟨hki, hk⟩
 have old : ∀ {k : Nat} {x : Blk}, (h.set b (.rows (rs.set j (.av A'))))[k]? = some x → ∃ y, h[k]? = some y ∧ y.isLive = x.isLive ∧ y.isMut = x.isMut ∧ (∀ p b, x.owns p b → y.owns p b) := by
  intro k x hk
  rcases g hk with ⟨rfl, rfl⟩ | ⟨_, hk⟩
  · exact ⟨_, hb, rfl, rfl, fun _ _ h => how.1 h⟩
  · exact ⟨x, hk, rfl, rfl, fun _ _ h => h⟩
 have hmu : muOf out π (h.set b (.rows (rs.set j (.av A')))) = muOf out π h := by
  funext c
  apply propext
  constructor
  · rintro (hb | ⟨k, x, p, h1, h2, h3, h4⟩)
    · exact .inl hb
    · obtain ⟨y, y1, _, y3, y4⟩ := old h1
      exact .inr ⟨k, y, p, y1, by rw [y3]; exact h2, h3, y4 _ _ h4⟩
  · rintro (hb' | ⟨k, x, p, h1, h2, h3, h4⟩)
    · exact .inl hb'
    · by_cases hki : k = b
      · subst hki
        rw [hb] at h1; cases h1
        exact .inr ⟨k, .rows (rs.set j (.av A')), p, List.getElem?_set_self hil, rfl, h3, how.2 h4⟩
      · exact .inr ⟨k, x, p, by rw [List.getElem?_set_ne (fun e => hki e.symm)]; exact h1, h2, h3, h4⟩
 refine ⟨π, ⟨hR.defers, ?_, ?_⟩, fun b hb => ?_, PinK.refl π⟩
 · simp only [hmu]; exact hR.slots
 · refine ⟨by simpa using hI.len, hI.bound, hI.out_lt, ?_, ?_, ?_⟩
   · intro k x p b h1 h2 h3
     obtain ⟨y, y1, _, _, y4⟩ := old h1
     exact hI.baseO k y p b y1 h2 (y4 _ _ h3)
   · intro k x p h1 h2
     simp only [hmu]
     rcases g h1 with ⟨rfl, rfl⟩ | ⟨_, hk⟩
     · obtain ⟨o1, o2, o3, o4⟩ := hI.ok k _ p hb h2
       refine ⟨o1, RvW.of _ _ _ _ fun i x hx => ?_, fun k len es cs q h1 h2 => o3 k len es cs q (row.1 h1) h2, fun k k' len es len' es' cs cs' q q' hk h1 h2 h3 h4 => o4 k k' len es len' es' cs cs' q q' hk (row.1 h1) (row.1 h2) h3 h4⟩
       by_cases e : i = j
       · subst e
         rw [List.getElem?_set_self hjl] at hx; cases hx
         obtain ⟨v, v1, v2, v3⟩ := o2.at hc
         exact ⟨v, v1, v2, hA _ _ _ _ _ hI v3⟩
       · rw [List.getElem?_set_ne (fun e' => e e'.symm)] at hx
         exact o2.at hx
     · exact hI.ok k x p hk h2
   · intro k l x y p q b hkl h1 h2 h3 h4 h5 h6 h7
     obtain ⟨x', x1, _, x3, x4⟩ := old h1
     obtain ⟨y', y1, _, _, y4⟩ := old h2
     exact hI.sepO k l x' y' p q b hkl x1 y1 h3 h4 (by rw [x3]; exact h5) (x4 _ _ h6) (y4 _ _ h7)
 · rw [hmu] at hb; exact hb
theorem Sn.hsR {H : List Blk} {ok : Nat → Bool} {b len : Nat} {rs : List RC} (hok : ok b = true) (hb : H[b]? = some (.rows rs)) (hp : idsOfL (rs.map frz) = []) (h0 : len = 0 → rs = []) : Sn H ok (.hs b 0 len 1) (.sl true (rs.map frz) len) := fun w mu mu' π v hL hm hv => by
 rcases hv with ⟨rfl, rfl⟩ | ⟨p, a, cap, h1, rfl, h2, hsp, h3⟩
 · exact .inl ⟨rfl, rfl, by rw [h0 rfl]; rfl, rfl⟩
 · obtain ⟨g1, g2⟩ := hL.rows b p rs hok hb h1
   obtain ⟨ab, ao, asp⟩ := a
   simp only at hsp; subst hsp
   by_cases hcap : 0 < cap
   · obtain ⟨e1, _⟩ := h3 hcap
     cases e1
     exact .inr (.inl ⟨_, _, cap, rfl, h2, fun _ => g2, pureC_any (fun _ h => h) _ _ _ hp g1⟩)
   · have : rs = [] := h0 (by omega)
     subst this
     exact .inr (.inl ⟨ab, ao, cap, rfl, h2, fun h => (h rfl).elim, trivial⟩)
end Go.Eng
namespace Go.L
open Go Go.Eng
variable [Dr]
variable {K : Nat}
def rwA {α : Type} (es : Nat) (c : α → List AV) (l : List α) : RC := .row l.length es (l.flatMap c)
def rws {α : Type} (es : Nat) (c : α → List AV) (e : List (List α)) : List RC := e.map (rwA es c)
section
variable {α : Type} {es : Nat} {c : α → List AV} {e : List (List α)}
theorem rws_len : (rws es c e).length = e.length := by simp [rws]
theorem rws_frz : (rws es c e).map frz = e.flatMap (slC c) := by
 induction e with
 | nil => rfl
 | cons x e ih => rw [List.flatMap_cons, ← ih]; rfl
theorem rws_ids : idsOfR (rws es c e) = [] := by
 induction e with
 | nil => rfl
 | cons x e ih => exact ih
theorem rws_get {i : Int} (hi : inR i e.length = true) : (rws es c e)[i.toNat]? = some (rwA es c (gt e i)) := by
 have := inR_lt hi
 simp [rws, gt, this]
theorem rws_set {k : Nat} {x : List α} : (rws es c e).set k (rwA es c x) = rws es c (e.set k x) := by simp [rws, List.map_set]
theorem rws_app {x : List α} : rws es c e ++ [rwA es c x] = rws es c (e ++ [x]) := by simp [rws]
theorem rld {A : AV} {i : Int} {j : Nat} (hi : inR i e.length = true) (hj : j = i.toNat) : ORes.ofP (rcAt ((rws es c e).set i.toNat (.av A))[j]?) = some (.pure A) := by
 have := inR_lt hi
 rw [hj, List.getElem?_set_self (by rw [rws_len]; exact this)]; rfl
theorem rst {A A' : AV} {i : Int} {j b : Nat} (hi : inR i e.length = true) (hj : j = i.toNat) : stO (decide (j < ((rws es c e).set i.toNat (.av A')).length) && true) [(b, .rows (((rws es c e).set i.toNat (.av A')).set j (.av A)))] = some (.eff .unk [(b, .rows ((rws es c e).set i.toNat (.av A)))]) := by
 have := inR_lt hi
 subst hj
 exact stO_t (and_t (decide_eq_true (by rw [List.length_set, rws_len]; exact this))) (by rw [List.set_set])
theorem rap {A : AV} {i nid len : Nat} {by_ : Nat} (hl : len = e.length) (h2 : decide ((e.length + 1) * by_ ≤ 140737488355328) = true) (h3 : decide (e.length + 1 ≤ 4611686018427387904) = true) :
  guardO (decide (len ≤ (rws es c e).length) && decide ((len + 1) * by_ ≤ 140737488355328) && decide (len + 1 ≤ 4611686018427387904) && true) (some (.eff (.hs nid 0 (len + 1) 1) [(i, .dead), (nid, .rows ((rws es c e).take len ++ [.av A]))])) =
   some (.eff (.hs nid 0 (e.length + 1) 1) [(i, .dead), (nid, .rows (rws es c e ++ [.av A]))]) := by
 subst hl
 have h1 : decide (e.length ≤ (rws es c e).length) = true := decide_eq_true (by rw [rws_len]; exact Nat.le_refl _)
 rw [h1, h2, h3, List.take_of_length_le (by rw [rws_len]; exact Nat.le_refl _)]; rfl
theorem rwsP_ids (hp : ∀ y, idsOfL (c y) = []) {j : Nat} {x : List α} : idsOfR ((rws es c e).set j (.av (slT c x))) = [] := by
 have : ∀ (rs : List RC) (j : Nat), idsOfR rs = [] → idsOfR (rs.set j (.av (slT c x))) = [] := by
  intro rs
  induction rs with
  | nil => intro j h; simp [idsOfR]
  | cons r rs ih =>
   intro j h
   cases j with
   | zero => cases r <;> simp_all [idsOfR, slT, idsOf, ids_flat hp]
   | succ j => cases r <;> simp_all [idsOfR]
 exact this _ _ rws_ids
theorem neT {i j : Int} {n m : Nat} (hi : inR i n = true) (hj : inR j m = true) (hne : decide (i ≠ j) = true) : i.toNat ≠ j.toNat := by
 simp only [inR, Bool.and_eq_true, decide_eq_true_eq] at hi hj
 have := of_decide_eq_true hne
 omega
theorem rws_getN {i j : Int} {R : RC} (hi : inR i e.length = true) (hj : inR j e.length = true) (hne : decide (i ≠ j) = true) : ((rws es c e).set i.toNat R)[j.toNat]? = some (rwA es c (gt e j)) := by
 rw [List.getElem?_set_ne (neT hi hj hne)]; exact rws_get hj
theorem rldI {A S : AV} {i j : Int} {k : Nat} (hi : inR i e.length = true) (hj : inR j e.length = true) (hne : decide (i ≠ j) = true) (hk : k = i.toNat) : ORes.ofP (rcAt (((rws es c e).set i.toNat (.av A)).set j.toNat (.av S))[k]?) = some (.pure A) := by
 subst hk
 rw [List.getElem?_set_ne (neT hi hj hne).symm, List.getElem?_set_self (by rw [rws_len]; exact inR_lt hi)]; rfl
theorem rldJ {A S : AV} {i j : Int} {k : Nat} (hj : inR j e.length = true) (hk : k = j.toNat) : ORes.ofP (rcAt (((rws es c e).set i.toNat (.av A)).set j.toNat (.av S))[k]?) = some (.pure S) := by
 subst hk
 rw [List.getElem?_set_self (by rw [List.length_set, rws_len]; exact inR_lt hj)]; rfl
theorem rstI {A A' S : AV} {i j : Int} {k b : Nat} (hi : inR i e.length = true) (hj : inR j e.length = true) (hne : decide (i ≠ j) = true) (hk : k = i.toNat) :
  stO (decide (k < (((rws es c e).set i.toNat (.av A')).set j.toNat (.av S)).length) && true) [(b, .rows ((((rws es c e).set i.toNat (.av A')).set j.toNat (.av S)).set k (.av A)))] = some (.eff .unk [(b, .rows (((rws es c e).set i.toNat (.av A)).set j.toNat (.av S)))]) := by
 subst hk
 have hl : i.toNat < (((rws es c e).set i.toNat (.av A')).set j.toNat (.av S)).length := by rw [List.length_set, List.length_set, rws_len]; exact inR_lt hi
 rw [decide_eq_true hl, List.set_comm _ _ (neT hi hj hne).symm, List.set_set]; rfl
section
variable {s : List AV} {h : List Blk}
theorem Wk.mkT (b : Nat) {n : Nat} (es : Nat) (c : α → List AV) (hb : h[b]? = some (.own (zerosA [.at (.slice none 0 0)] n)) := by kernel_rfl) (hK : Nat.ble K b = true := by kernel_rfl) : Wk K ⟨s, h⟩ ⟨s, h.set b (.rows (rws es c (List.replicate n [])))⟩ := by
 have := Wk.mkRows (K := K) (s := s) b es n hb hK
 have e : rws es c (List.replicate n []) = List.replicate n (.row 0 es []) := by simp [rws, rwA]
 rw [e]; exact this
theorem Wk.openT (b : Nat) {i : Int} (hi : inR i e.length = true) (hb : h[b]? = some (.rows (rws es c e)) := by kernel_rfl) : Wk K ⟨s, h⟩ ⟨s, h.set b (.rows ((rws es c e).set i.toNat (.av (.hs h.length 0 (gt e i).length es)))) ++ [.own ((gt e i).flatMap c)]⟩ :=
 Wk.openR b i.toNat hb (rws_get hi)
theorem Wk.closeT (b n : Nat) {x : List α} {i : Int} {len : Nat} (hp : ∀ y, idsOfL (c y) = []) (hi : inR i e.length = true) (hl : x.length = len) (hb : h[b]? = some (.rows ((rws es c e).set i.toNat (.av (.hs n 0 len es)))) := by kernel_rfl) (hn : h[n]? = some (.own (x.flatMap c)) := by kernel_rfl) (hK : Nat.ble K b = true := by kernel_rfl) (hnb : Nat.beq n b = false := by kernel_rfl) :
  Wk K ⟨s, h⟩ ⟨s, (h.set b (.rows (rws es c (e.set i.toNat x)))).set n .dead⟩ := by
 subst hl
 have := inR_lt hi
 have := Wk.closeR (K := K) (s := s) b i.toNat n hb (by rw [List.getElem?_set_self (by rw [rws_len]; exact this)]) hn (ids_flat hp x) (fun h => flat_nil0 h) hK hnb
 rw [List.set_set] at this
 rw [← rws_set]; exact this
theorem Wk.nilA (b : Nat) (hb : h[b]? = some (.rows (rws es c e ++ [.av (.at (.slice none 0 0))])) := by kernel_rfl) (hK : Nat.ble K b = true := by kernel_rfl) : Wk K ⟨s, h⟩ ⟨s, h.set b (.rows (rws es c (e ++ [[]])))⟩ := by
 have := Wk.nilR (K := K) (s := s) b e.length es hb (by rw [List.getElem?_append_right (by rw [rws_len]; exact Nat.le_refl _), rws_len, Nat.sub_self]; rfl) hK
 rw [List.set_append_right _ _ (by rw [rws_len]; exact Nat.le_refl _), rws_len, Nat.sub_self] at this
 rw [← rws_app]; exact this
theorem Wk.closeA (b n : Nat) {x : List α} {len : Nat} (hp : ∀ y, idsOfL (c y) = []) (hl : x.length = len) (hb : h[b]? = some (.rows (rws es c e ++ [.av (.hs n 0 len es)])) := by kernel_rfl) (hn : h[n]? = some (.own (x.flatMap c)) := by kernel_rfl) (hK : Nat.ble K b = true := by kernel_rfl) (hnb : Nat.beq n b = false := by kernel_rfl) :
  Wk K ⟨s, h⟩ ⟨s, (h.set b (.rows (rws es c (e ++ [x])))).set n .dead⟩ := by
 subst hl
 have := Wk.closeR (K := K) (s := s) b e.length n hb (by rw [List.getElem?_append_right (by rw [rws_len]; exact Nat.le_refl _), rws_len, Nat.sub_self]; rfl) hn (ids_flat hp x) (fun h => flat_nil0 h) hK hnb
 rw [List.set_append_right _ _ (by rw [rws_len]; exact Nat.le_refl _), rws_len, Nat.sub_self] at this
 rw [← rws_app]; exact this
theorem Wk.fixT (b : Nat) (hb : h[b]? = some (.rows (rws es c e)) := by kernel_rfl) : Wk K ⟨s, h⟩ ⟨s, h.set b (.fix (e.flatMap (slC c)))⟩ := by
 have := Wk.fixR (K := K) (s := s) b hb
 rwa [rws_frz] at this
theorem Wk.purJ (b : Nat) {A : AV} {i j : Int} (hp : ∀ y, idsOfL (c y) = []) (hi : inR i e.length = true) (hj : inR j e.length = true) (hne : decide (i ≠ j) = true) (hb : h[b]? = some (.rows ((rws es c e).set i.toNat (.av A))) := by kernel_rfl) :
  Wk K ⟨s, h⟩ ⟨s, h.set b (.rows (((rws es c e).set i.toNat (.av A)).set j.toNat (.av (slT c (gt e j))))) ++ [.fix ((gt e j).flatMap c)]⟩ := by
 have hbl := getElem?_lt hb
 have h0 := Wk.openR (K := K) (s := s) b j.toNat hb (rws_getN hi hj hne)
 have hn : (h.set b (.rows (((rws es c e).set i.toNat (.av A)).set j.toNat (.av (.hs h.length 0 (gt e j).length es)))) ++ [.own ((gt e j).flatMap c)])[h.length]? = some (.own ((gt e j).flatMap c)) := by
  rw [List.getElem?_append_right (by rw [List.length_set]; exact Nat.le_refl _), List.length_set, Nat.sub_self]; rfl
 have h1 := Wk.fix (K := K) (s := s) h.length hn
 rw [List.set_append_right _ _ (by rw [List.length_set]; exact Nat.le_refl _), List.length_set, Nat.sub_self] at h1
 have hb2 : (h.set b (.rows (((rws es c e).set i.toNat (.av A)).set j.toNat (.av (.hs h.length 0 (gt e j).length es)))) ++ [Blk.own ((gt e j).flatMap c)].set 0 (.fix ((gt e j).flatMap c)))[b]? = some (.rows (((rws es c e).set i.toNat (.av A)).set j.toNat (.av (.hs h.length 0 (gt e j).length es)))) := by
  rw [List.getElem?_append_left (by rw [List.length_set]; exact hbl), List.getElem?_set_self hbl]
 have hn2 : (h.set b (.rows (((rws es c e).set i.toNat (.av A)).set j.toNat (.av (.hs h.length 0 (gt e j).length es)))) ++ [Blk.own ((gt e j).flatMap c)].set 0 (.fix ((gt e j).flatMap c)))[h.length]? = some (.fix ((gt e j).flatMap c)) := by
  rw [List.getElem?_append_right (by rw [List.length_set]; exact Nat.le_refl _), List.length_set, Nat.sub_self]; rfl
 have h2 := Wk.cellW (K := K) (s := s) b j.toNat (A := .hs h.length 0 (gt e j).length es) (A' := slT c (gt e j)) (fun out B w π v hI hv => by
  rcases hv with ⟨h0, rfl⟩ | ⟨p, a, cap, g1, rfl, g2, hsp, g3⟩
  · have : gt e j = [] := List.length_eq_zero_iff.1 h0
    rw [this]
    exact .inl ⟨rfl, rfl, rfl, rfl⟩
  · obtain ⟨q1, q2⟩ := look_fix hI h.length p _ hn2 g1
    obtain ⟨ab, ao, asp⟩ := a
    simp only at hsp; subst hsp
    by_cases hcap : 0 < cap
    · obtain ⟨e1, _⟩ := g3 hcap
      cases e1
      exact .inr (.inl ⟨_, _, cap, rfl, g2, fun _ => q2, pureC_any (fun _ h => h) _ _ _ (ids_flat hp (gt e j)) q1⟩)
    · have : gt e j = [] := List.length_eq_zero_iff.1 (by omega)
      exact .inr (.inl ⟨ab, ao, cap, rfl, g2, fun h => (h (by rw [this]; rfl)).elim, by rw [this]; trivial⟩)) hb2 (by rw [List.getElem?_set_self (by rw [List.length_set, rws_len]; exact inR_lt hj)])
 rw [List.set_append_left _ _ (by rw [List.length_set]; exact hbl), List.set_set, List.set_set] at h2
 exact (h0.trans h1).trans h2
theorem Wk.closeP (b n : Nat) {x : List α} {S : AV} {i j : Int} {len : Nat} (hp : ∀ y, idsOfL (c y) = []) (hi : inR i e.length = true) (hj : inR j e.length = true) (hne : decide (i ≠ j) = true) (hl : x.length = len)
  (hb : h[b]? = some (.rows (((rws es c e).set i.toNat (.av (.hs n 0 len es))).set j.toNat (.av S))) := by kernel_rfl) (hn : h[n]? = some (.own (x.flatMap c)) := by kernel_rfl) (hK : Nat.ble K b = true := by kernel_rfl) (hnb : Nat.beq n b = false := by kernel_rfl) :
  Wk K ⟨s, h⟩ ⟨s, (h.set b (.rows ((rws es c (e.set i.toNat x)).set j.toNat (.av S)))).set n .dead⟩ := by
 subst hl
 have hil := inR_lt hi
 have := Wk.closeR (K := K) (s := s) b i.toNat n hb (by rw [List.getElem?_set_ne (neT hi hj hne).symm, List.getElem?_set_self (by rw [rws_len]; exact hil)]) hn (ids_flat hp x) (fun h => flat_nil0 h) hK hnb
 rw [List.set_comm _ _ (neT hi hj hne).symm, List.set_set] at this
 rw [← rws_set]; exact this
theorem Wk.ownT (b : Nat) (hb : h[b]? = some (.rows (rws es c e)) := by kernel_rfl) : Wk K ⟨s, h⟩ ⟨s, h.set b (.own (e.flatMap (slC c)))⟩ := by
 have := Wk.ownR (K := K) (s := s) b hb
 rwa [rws_frz] at this
end
def rwO {α : Type} (es : Nat) (c : α → List AV) : Option (List α) → RC
 | none => .av .unk
 | some l => rwA es c l
def rwh {α : Type} (es : Nat) (c : α → List AV) (e : List (Option (List α))) : List RC := e.map (rwO es c)
section
variable {g : List (Option (List α))} {s : List AV} {h : List Blk}
theorem rwh_len : (rwh es c g).length = g.length := by simp [rwh]
theorem rwh_set {k : Nat} {x : Option (List α)} : (rwh es c g).set k (rwO es c x) = rwh es c (g.set k x) := by simp [rwh, List.map_set]
theorem rwh_some : rwh es c (e.map some) = rws es c e := by simp [rwh, rws, rwO]
theorem rwh_ids : idsOfR (rwh es c g) = [] := by
 unfold rwh
 induction g with
 | nil => rfl
 | cons x g ih => cases x <;> exact ih
theorem rwh_get {i : Int} (hi : inR i g.length = true) (hs : (gt g i).isSome = true) : (rwh es c g)[i.toNat]? = some (rwA es c ((gt g i).getD [])) := by
 have hl := inR_lt hi
 have e1 : gt g i = g[i.toNat] := by simp [gt, List.getD, List.getElem?_eq_getElem hl]
 rw [e1] at hs ⊢
 rw [rwh, List.getElem?_map, List.getElem?_eq_getElem hl]
 cases hx : g[i.toNat] with
 | none => rw [hx] at hs; cases hs
 | some x => rfl
theorem rldH {A : AV} {i : Int} {j : Nat} (hi : inR i g.length = true) (hj : j = i.toNat) : ORes.ofP (rcAt ((rwh es c g).set i.toNat (.av A))[j]?) = some (.pure A) := by
 subst hj
 rw [List.getElem?_set_self (by rw [rwh_len]; exact inR_lt hi)]; rfl
theorem Wk.mkH (b : Nat) (hb : h[b]? = some (.rows (rws es c e)) := by kernel_rfl) : Wk K ⟨s, h⟩ ⟨s, h.set b (.rows (rwh es c (e.map some)))⟩ := by
 rw [rwh_some, set_same h b _ hb]
 exact Wk.refl _
theorem Wk.openH (b : Nat) {i : Int} (hi : inR i g.length = true) (hs : (gt g i).isSome = true) (hb : h[b]? = some (.rows (rwh es c g)) := by kernel_rfl) : Wk K ⟨s, h⟩ ⟨s, h.set b (.rows ((rwh es c g).set i.toNat (.av (.hs h.length 0 ((gt g i).getD []).length es)))) ++ [.own (((gt g i).getD []).flatMap c)]⟩ :=
 Wk.openR b i.toNat hb (rwh_get hi hs)
theorem Wk.closeH (b n : Nat) {x : List α} {i : Int} {len : Nat} (hp : ∀ y, idsOfL (c y) = []) (hi : inR i g.length = true) (hl : x.length = len) (hb : h[b]? = some (.rows ((rwh es c g).set i.toNat (.av (.hs n 0 len es)))) := by kernel_rfl) (hn : h[n]? = some (.own (x.flatMap c)) := by kernel_rfl) (hK : Nat.ble K b = true := by kernel_rfl) (hnb : Nat.beq n b = false := by kernel_rfl) :
  Wk K ⟨s, h⟩ ⟨s, (h.set b (.rows (rwh es c (g.set i.toNat (some x))))).set n .dead⟩ := by
 subst hl
 have := inR_lt hi
 have := Wk.closeR (K := K) (s := s) b i.toNat n hb (by rw [List.getElem?_set_self (by rw [rwh_len]; exact this)]) hn (ids_flat hp x) (fun h => flat_nil0 h) hK hnb
 rw [List.set_set] at this
 rw [← rwh_set]; exact this
theorem Wk.forgetH (b : Nat) {A : AV} {i : Int} (hi : inR i g.length = true) (hb : h[b]? = some (.rows ((rwh es c g).set i.toNat (.av A))) := by kernel_rfl) : Wk K ⟨s, h⟩ ⟨s, h.set b (.rows (rwh es c (g.set i.toNat none)))⟩ := by
 have hl := inR_lt hi
 have := Wk.cellW (K := K) (s := s) b i.toNat (A := A) (A' := .unk) (fun _ _ _ _ _ _ _ => trivial) hb (by rw [List.getElem?_set_self (by rw [rwh_len]; exact hl)])
 rw [List.set_set] at this
 rw [← rwh_set]; exact this
theorem pKh {H : List Blk} {b : Nat} {l : List (Nat × Bool)} (es : Nat) (c : α → List AV) (g : List (Option (List α))) (rest : pureK H l) (hb : H[b]? = some (.rows (rwh es c g)) := by kernel_rfl) : pureK H ((b, false) :: l) :=
 ⟨by rw [hb]; exact rwh_ids, rest⟩
end
theorem Sn.rw {H : List Blk} {ok : Nat → Bool} {b : Nat} (hok : ok b = true := by kernel_rfl) (hb : H[b]? = some (.rows (rws es c e)) := by kernel_rfl) : Sn H ok (.hs b 0 e.length 1) (slT (slC c) e) := by
 have := Sn.hsR (len := e.length) hok hb (by rw [rws_frz]; exact ids_flat (slC_pure c) e) (fun h0 => by
  have : e = [] := List.length_eq_zero_iff.1 h0
  subst this; rfl)
 rwa [rws_frz] at this
theorem RvC.setL {w : World} {mu : Nat → Prop} {π : List (Option PB)} {A A' : AV} (hA : ∀ v, Rv w mu π A v → Rv w mu π A' v) : ∀ (cs : List AV) (j b o : Nat), cs[j]? = some A → RvC w mu π cs b o → RvC w mu π (cs.set j A') b o
 | [], j, _, _, h, _ => by simp at h
 | c :: cs, 0, b, o, h, k => by
  simp at h; subst h
  obtain ⟨⟨v, h1, h2, h3⟩, h4⟩ := k
  exact ⟨⟨v, h1, h2, hA _ h3⟩, h4⟩
 | c :: cs, j + 1, b, o, h, k => ⟨k.1, RvC.setL hA cs j b (o + 1) (by simpa using h) k.2⟩
theorem rws_ids0 (hp : ∀ y, idsOfL (c y) = []) : idsOfL (e.flatMap (slC c)) = [] := ids_flat (c := slC c) (fun x => by simp [slC, slT, idsOfL, idsOf, ids_flat hp]) e
theorem Sn.rwo {H : List Blk} {ok : Nat → Bool} {b n m : Nat} {i : Int} (hp : ∀ y, idsOfL (c y) = []) (hi : inR i e.length = true) (hm : e.length = m) (hok : ok b = true := by kernel_rfl) (hok2 : ok n = true := by kernel_rfl)
  (hb : H[b]? = some (.rows ((rws es c e).set i.toNat (.av (.hs n 0 (gt e i).length es)))) := by kernel_rfl) (hn : H[n]? = some (.own ((gt e i).flatMap c)) := by kernel_rfl) : Sn H ok (.hs b 0 m 1) (slT (slC c) e) := fun w mu mu' π v hL hm' hv => by
 subst hm
 have hil := inR_lt hi
 rcases hv with ⟨h0, rfl⟩ | ⟨p, a, cap, h1, rfl, h2, hsp, h3⟩
 · omega
 obtain ⟨g1, g2⟩ := hL.rows b p _ hok hb h1
 obtain ⟨ab, ao, asp⟩ := a
 simp only at hsp; subst hsp
 obtain ⟨e1, _⟩ := h3 (by omega)
 cases e1
 refine .inr (.inl ⟨_, _, cap, rfl, h2, fun _ => g2, ?_⟩)
 rw [List.map_set, rws_frz] at g1
 have hcell : ((e.flatMap (slC c)).set i.toNat (.hs n 0 (gt e i).length es))[i.toNat]? = some (.hs n 0 (gt e i).length es) := List.getElem?_set_self (by rw [flat_len (es := 1) (fun _ => rfl)]; omega)
 have g3 := RvC.setL (A := .hs n 0 (gt e i).length es) (A' := slT c (gt e i)) (fun v hv => by
  rcases hv with ⟨h0, rfl⟩ | ⟨q, a, cap, k1, rfl, k2, ksp, k3⟩
  · exact .inl ⟨rfl, h0, by rw [List.length_eq_zero_iff.1 h0]; rfl, rfl⟩
  · obtain ⟨q1, q2⟩ := hL.look n q _ hok2 (.inl hn) k1
    obtain ⟨ab, ao, asp⟩ := a
    simp only at ksp; subst ksp
    by_cases hcap : 0 < cap
    · obtain ⟨e1, _⟩ := k3 hcap
      cases e1
      exact .inr (.inl ⟨_, _, cap, rfl, k2, fun _ => q2, pureC_any hm' _ _ _ (ids_flat hp _) q1⟩)
    · have : gt e i = [] := List.length_eq_zero_iff.1 (by omega)
      exact .inr (.inl ⟨ab, ao, cap, rfl, k2, fun h => (h (by rw [this]; rfl)).elim, by rw [this]; trivial⟩)) _ _ _ _ hcell g1
 rw [List.set_set] at g3
 have hsame : (e.flatMap (slC c)).set i.toNat (slT c (gt e i)) = e.flatMap (slC c) := by
  apply List.ext_getElem?
  intro k
  rw [List.getElem?_set]
  by_cases hk : i.toNat = k
  · subst hk
    have := flat_get (c := slC c) (es := 1) (i := i.toNat) (k := 0) (l := e) (A := slT c (gt e i)) (fun _ => rfl) hil (by omega) (by omega : i.toNat = i.toNat * 1 + 0) rfl
    simp only [if_true, flat_len (es := 1) (c := slC c) (fun _ => rfl)]
    rw [if_pos (by omega)]
    exact this.symm
  · rw [if_neg hk]
 rw [hsame] at g3
 exact pureC_any (fun _ h => h) _ _ _ (rws_ids0 hp) g3
theorem pKr {H : List Blk} {b : Nat} {l : List (Nat × Bool)} (es : Nat) (c : α → List AV) (e : List (List α)) (rest : pureK H l) (hb : H[b]? = some (.rows (rws es c e)) := by kernel_rfl) : pureK H ((b, false) :: l) :=
 ⟨by rw [hb]; exact rws_ids, rest⟩
end
end Go.L

