import Derived.Test.YtlpfiiejhikalaaGreatScWTrks
import Derived.Test.YtlpfiiejhikalaaGreatScMTrks
set_option linter.all false
set_option linter.unusedVariables false
set_option linter.unusedSectionVars false
namespace Go.Eng
open Go Go.RowKit
variable [Dr]
variable {K : Nat}
section
variable {w : World} {mu mu2 : Nat -> Prop} {Z : List (Option PB)}
theorem RvM.put {k : Value} {A : AV} : ∀ (es : List (Value × AV)) (l : List MapEntry) (j i : Nat) (e : MapEntry), RvM w mu Z j es l -> l[i]? = some e -> e.key = k -> Rv w mu Z A e.val -> RvM w mu Z j (es.set i (k, A)) l
 | [], _, _, _, _, h, _, _, _ => h
 | (k', A') :: es, _, j, 0, e, h, hi, hk, hA => by
  obtain ⟨e', l', rfl, h2, h0, h3, h4⟩ := h
  cases hi
  exact ⟨e, l', rfl, hk, h0, hA, h4⟩
 | (k', A') :: es, _, j, i + 1, e, h, hi, hk, hA => by
  obtain ⟨e', l', rfl, h2, h0, h3, h4⟩ := h
  exact ⟨e', l', rfl, h2, h0, h3, RvM.put es l' (j + 1) i e h4 (by simpa using hi) hk hA⟩
theorem jl.frz (hmu : ∀ c, mu2 c -> mu c) {s : Option (Nat × Nat × Nat)} {len es : Nat} {cs : List AV} {v : Value} (hq : ∀ q, s = some q -> ¬ mu2 q.1) (h : jl w mu s len es cs v) : Rv w mu2 Z (.sl true cs len) v := by
 rcases h with ⟨rfl, rfl, rfl⟩ | ⟨q, a, cap, c, e, g1, rfl, g3, g4, g5, g6, g7, g0, g8⟩
 · exact .inl ⟨rfl, rfl, rfl, rfl⟩
 · by_cases hc : 0 < cap
   · obtain ⟨rfl, _⟩ := g5 hc
     exact .inr (.inl ⟨_, _, cap, rfl, g3, fun _ => hq q g1, RvC.ext (Ext.less hmu) cs _ _ rfl g8⟩)
   · obtain rfl : len = 0 := by omega
     exact .inr (.inr ⟨rfl, g0 rfl, a, cap, rfl⟩)
def rJ (p : Value × RC) : Value × AV := (p.1, frz p.2)
theorem RvM.rJ (hmu : ∀ c, mu2 c -> mu c) : ∀ (l : List (Value × RC)) (ss : Nat -> Option (Nat × Nat × Nat)) (a : List MapEntry) (i : Nat), (∀ (k : Nat) (key : Value) (len es : Nat) (cs : List AV) (q : Nat × Nat × Nat), l[k]? = some (key, .row len es cs) -> ss k = some q -> ¬ mu2 q.1) ->
  RvM w mu Z i (l.map rcE) a -> pZ w mu ss l a -> RvM w mu2 Z i (l.map rJ) a
 | [], _, _, _, _, h, _ => h
 | (key, x) :: l, ss, _, i, hq, h, hr => by
  obtain ⟨e, a', rfl, h2, h0, h3, h4⟩ := h
  refine ⟨e, a', rfl, h2, h0, ?_, RvM.rJ hmu l (fun k => ss (k + 1)) a' (i + 1) (fun k key len es cs q g1 g2 => hq (k + 1) key len es cs q (by simpa using g1) g2) h4 fun k key len es cs g => by
   obtain ⟨e2, e3, e4⟩ := hr (k + 1) key len es cs (by simpa using g)
   exact ⟨e2, by simpa using e3, e4⟩⟩
  cases x with
  | row len es cs =>
   obtain ⟨e2, e3, e4⟩ := hr 0 key len es cs rfl
   simp only [List.getElem?_cons_zero, Option.some.injEq] at e3
   subst e3
   exact jl.frz hmu (fun q g => hq 0 key len es cs q rfl g) e4
  | av A => exact Rv.ext (Ext.less hmu) A _ h3
end
theorem Wk.mkM (b ez : Nat) {s : List AV} {h : List Blk} (hb : h[b]? = some (.map [])) (hK : Nat.ble K b = true := by kernel_rfl) : Wk K ⟨s, h⟩ ⟨s, h.set b (.mapr 0 ez [])⟩ :=
 Wk.xh b hb rfl (lbT hK) fun out B w Z p hI hp => by
  refine ⟨fun _ => none, ?_, fun mu' Z' hmu hπ => ?_⟩
  · rintro c (h | ⟨k, key, l, e, cs, q, h, _⟩)
    · exact h
    · simp at h
  · obtain ⟨a, h1, h2⟩ := hI.ok b _ p hb hp
    exact ⟨a, h1, h2, fun k key len es cs h => by simp at h, fun k l e cs q h => by simp at h, fun k k' l e l2 e2 cs cs2 q q' _ h => by simp at h⟩
theorem Wk.dfM (b d' : Nat) {d ez : Nat} {l : List (Value × RC)} {s : List AV} {h : List Blk} (hb : h[b]? = some (.mapr d ez l)) (hK : K <= b) : Wk K ⟨s, h⟩ ⟨s, h.set b (.mapr d' ez l)⟩ :=
 Wk.xh b hb rfl hK fun out B w Z p hI hp => by
  refine ⟨p.subs, fun c h => h, fun mu' Z' hmu hπ => ?_⟩
  have := cS.sim hmu hπ (hI.ok b _ p hb hp)
  exact this
theorem Wk.Bo (b k : Nat) {d ez : Nat} {l : List (Value × RC)} {key : Value} {len : Nat} {cs : List AV} {s : List AV} {h : List Blk} (hb : h[b]? = some (.mapr d ez l)) (hk : l[k]? = some (key, .row len ez cs)) :
  Wk K ⟨s, h⟩ ⟨s, h.set b (.mapr h.length ez (l.set k (key, .av (.hs h.length 0 len ez)))) ++ [.own cs]⟩ := fun out B w Z a hR => by
 have hI := hR.inv
 have hl := hI.len
 simp only at hI hl
 have hbl := aE hb
 have hkl := aE hk
 have rowsOf : ∀ {k' : Nat} {key' : Value} {len' es' : Nat} {cs' : List AV}, (l.set k (key, .av (.hs h.length 0 len ez)))[k']? = some (key', .row len' es' cs') -> k' ≠ k /\ l[k']? = some (key', .row len' es' cs') := by
  intro k' key' len' es' cs' g
  rcases br g with ⟨_, e⟩ | ⟨hne, g⟩
  · cases e
  · exact ⟨fun e => hne e.symm, g⟩
 have snd : ∀ {m : List (Value × RC)} {k' : Nat} {len' es' : Nat} {cs' : List AV}, (m.map (·.2))[k']? = some (.row len' es' cs') -> ∃ key', m[k']? = some (key', .row len' es' cs') := by
  intro m k' len' es' cs' g
  rw [List.getElem?_map] at g
  cases hm : m[k']? with
  | none => rw [hm] at g; cases g
  | some q => obtain ⟨key', x⟩ := q; rw [hm] at g; simp only [Option.map_some, Option.some.injEq] at g; subst g; exact ⟨key', rfl⟩
 have snd' : ∀ {m : List (Value × RC)} {k' : Nat} {key' : Value} {x : RC}, m[k']? = some (key', x) -> (m.map (·.2))[k']? = some x := by
  intro m k' key' x g; rw [List.getElem?_map, g]; rfl
 obtain ⟨o, ho1, ho2⟩ : ∃ o : Option PB, (∀ q, o = some q -> ∃ (p : PB) (sq : Nat × Nat × Nat), Z[b]? = some (some p) /\ p.subs k = some sq /\ q = ⟨sq.1, sq.2.1, sq.2.2, fun _ => none⟩ /\
   (∃ c e, w.heap[q.blk]? = some (.cells c e (0, 0)) /\ c.size = q.size) /\ RvC w (aH out Z h) [] cs q.blk q.off) /\
   ∀ p, Z[b]? = some (some p) -> ∃ (a : Array MapEntry) (en : MapEntry), w.heap[p.blk]? = some (.map a a.size) /\ a.toList[k]? = some en /\ en.key = key /\ ((len = 0 /\ en.val = .slice none 0 0) \/ ∃ (q : PB) (a : Addr) (cap : Nat), o = some q /\ en.val = .slice (some a) len cap /\ len <= cap /\ a.spot = none /\ (0 < cap -> a = ⟨q.blk, q.off + 0, none⟩ /\ q.off + 0 + cap * ez <= q.size)) := by
  cases hp : Z[b]? with
  | none => exact ⟨none, And.intro (fun _ e => by cases e) (fun _ e => by cases e)⟩
  | some op =>
   cases op with
   | none => exact ⟨none, And.intro (fun _ e => by cases e) (fun _ e => by cases e)⟩
   | some p =>
    obtain ⟨ar, a1, a2, a3, a4⟩ := hI.ok b _ p hb hp
    obtain ⟨en, v1, v2⟩ := a3 k key len ez cs hk
    obtain ⟨en', w1, w2, w3, w4⟩ := RvM.get _ _ _ k key .unk a2 (by rw [List.getElem?_map, hk]; rfl)
    rw [v1] at w1; cases w1
    rcases v2 with ⟨rfl, rfl, e3⟩ | ⟨q, a, cap, c, e, g1, g2, g3, g4, g5, g6, g7, g0, g8⟩
    · exact ⟨none, And.intro (fun _ e => by cases e) (fun p' e => by cases e; exact ⟨ar, en, a1, v1, w2, .inl ⟨rfl, e3⟩⟩)⟩
    · refine ⟨some ⟨q.1, q.2.1, q.2.2, fun _ => none⟩, And.intro (fun q' e => ?_) (fun p' e => ?_)⟩
      · cases e; exact ⟨p, q, rfl, g1, rfl, ⟨c, _, g6, g7⟩, g8⟩
      · cases e; exact ⟨ar, en, a1, v1, w2, .inr ⟨_, a, cap, rfl, g2, g3, g4, g5⟩⟩
 have split : ∀ {j : Nat} {z : Blk} {q : PB}, (h.set b (.mapr h.length ez (l.set k (key, .av (.hs h.length 0 len ez)))) ++ [.own cs])[j]? = some z -> (Z ++ [o])[j]? = some (some q) ->
   (j = b /\ z = .mapr h.length ez (l.set k (key, .av (.hs h.length 0 len ez))) /\ Z[b]? = some (some q)) \/ (j = h.length /\ z = .own cs /\ o = some q) \/ (j ≠ b /\ j ≠ h.length /\ h[j]? = some z /\ Z[j]? = some (some q)) := by
  intro j z q g1 g2
  by_cases hj : j < h.length
  · rw [List.getElem?_append_left (by simpa using hj)] at g1
    rw [List.getElem?_append_left (by omega)] at g2
    rcases br g1 with ⟨rfl, rfl⟩ | ⟨hne, g1⟩
    · exact .inl ⟨rfl, rfl, g2⟩
    · exact .inr (.inr ⟨fun e => hne e.symm, by omega, g1, g2⟩)
  · have hjl := aE g1
    simp at hjl
    obtain rfl : j = h.length := by omega
    rw [List.getElem?_append_right (by simp)] at g1
    rw [List.getElem?_append_right (by omega)] at g2
    simp at g1
    rw [hl] at g2
    simp at g2
    exact .inr (.inl ⟨rfl, g1.symm, g2⟩)
 have part1 : ∀ {p : PB} {c : Nat}, (Blk.mapr h.length ez (l.set k (key, .av (.hs h.length 0 len ez)))).owns p c -> (Blk.mapr d ez l).owns p c := by
  rintro p c (g | ⟨k', y', l', e', c', q, g1, g2, g3⟩)
  · exact .inl g
  · exact .inr ⟨k', y', l', e', c', q, (rowsOf g1).2, g2, g3⟩
 have part2 : ∀ {q : PB} {c : Nat}, o = some q -> (Blk.own cs).owns q c -> ∃ p, Z[b]? = some (some p) /\ (Blk.mapr d ez l).owns p c := by
  intro q c g1 g2
  obtain ⟨p, sq, e1, e2, rfl, _⟩ := ho1 q g1
  exact ⟨p, e1, .inr ⟨k, key, len, ez, cs, sq, hk, e2, g2⟩⟩
 have hmu : ∀ c, aH out (Z ++ [o]) (h.set b (.mapr h.length ez (l.set k (key, .av (.hs h.length 0 len ez)))) ++ [.own cs]) c -> aH out Z h c := by
  rintro c (ho | ⟨j, z, q, g1, g2, g3, g4⟩)
  · exact .inl ho
  · rcases split g1 g3 with ⟨rfl, rfl, g3⟩ | ⟨rfl, rfl, g3⟩ | ⟨_, _, g1, g3⟩
    · exact .inr ⟨j, _, q, hb, rfl, g3, part1 g4⟩
    · obtain ⟨p, e1, e2⟩ := part2 g3 g4
      exact .inr ⟨b, _, p, hb, rfl, e1, e2⟩
    · exact .inr ⟨j, z, q, g1, g2, g3, g4⟩
 have hE : Ext B w w (aH out Z h) (aH out (Z ++ [o]) (h.set b (.mapr h.length ez (l.set k (key, .av (.hs h.length 0 len ez)))) ++ [.own cs])) Z (Z ++ [o]) := ⟨fun _ _ => rfl, Nat.le_refl _, fun c _ hc => ⟨rfl, fun hc' => hc (hmu c hc')⟩, fun i q hq => by
  rw [List.getElem?_append_left (aE hq)]; exact hq, rfl, rfl, rfl, fun _ => Nat.le_refl _⟩
 have apart : ∀ {p q : PB} {c : Nat}, Z[b]? = some (some p) -> o = some q -> (Blk.mapr h.length ez (l.set k (key, .av (.hs h.length 0 len ez)))).owns p c -> ¬ (Blk.own cs).owns q c := by
  rintro p q c hp hq hc e
  have e : q.blk = c := e
  obtain ⟨p', sq, e1, e2, rfl, _⟩ := ho1 q hq
  rw [hp] at e1; cases e1
  obtain ⟨_, _, _, _, s1, s2⟩ := hI.ok b _ p hb hp
  rcases hc with g | ⟨k', y', l', e', c', q', g1, g2, g3⟩
  · exact s1 k len ez cs sq (snd' hk) e2 (e.trans g.symm)
  · exact s2 k k' len ez l' e' cs c' sq q' (fun e => (rowsOf g1).1 e.symm) (snd' hk) (snd' (rowsOf g1).2) e2 g2 (e.trans g3.symm)
 refine ⟨Z ++ [o], ⟨hR.defers, RvL.ext hE _ _ hR.slots, ⟨by simp [hl], hI.bound, hI.out_lt, ?_, ?_, ?_⟩⟩, hmu, hE.pin⟩
 · intro j z q c g1 g2 g3
   rcases split g1 g2 with ⟨rfl, rfl, g2⟩ | ⟨rfl, rfl, g2⟩ | ⟨_, _, g1, g2⟩
   · exact hI.baseO j _ q c hb g2 (part1 g3)
   · obtain ⟨p, e1, e2⟩ := part2 g2 g3
     exact hI.baseO b _ p c hb e1 e2
   · exact hI.baseO j z q c g1 g2 g3
 · intro j z q g1 g2
   rcases split g1 g2 with ⟨rfl, rfl, g2⟩ | ⟨rfl, rfl, g2⟩ | ⟨_, _, g1, g2⟩
   · obtain ⟨ar, h1, h2, h3, s1, s2⟩ := hI.ok j _ q hb g2
     obtain ⟨ar', en, v0, v1, v2, v3⟩ := ho2 q g2
     rw [h1] at v0
     obtain rfl : ar = ar' := by simp at v0; exact v0.1
     refine ⟨ar, h1, ?_, fun k' key' l' e' c' g => ?_, And.intro (fun k' l' e' c' q' g1 g2 => ?_) (fun k1 k2 l1 e1 l2 e2 c1 c2 q1 q2 hk g1 g2 g3 g4 => ?_)⟩
     · rw [ma]
       refine RvM.put _ _ 0 k en (RvM.ext hE 0 _ _ h2) v1 v2 ?_
       rcases v3 with v3 | ⟨q', a', cap, v3, v4⟩
       · exact .inl v3
       · exact .inr ⟨q', a', cap, by rw [<- hl, List.getElem?_append_right (Nat.le_refl _), Nat.sub_self]; simp [v3], v4⟩
     · obtain ⟨en2, e1, e2⟩ := h3 k' key' l' e' c' (rowsOf g).2
       exact ⟨en2, e1, jl.ext hE (fun _ _ => rfl) e2⟩
     · obtain ⟨y, g1⟩ := snd g1
       exact s1 k' l' e' c' q' (snd' (rowsOf g1).2) g2
     · obtain ⟨y1, g1⟩ := snd g1
       obtain ⟨y2, g2⟩ := snd g2
       exact s2 k1 k2 l1 e1 l2 e2 c1 c2 q1 q2 hk (snd' (rowsOf g1).2) (snd' (rowsOf g2).2) g3 g4
   · obtain ⟨p, sq, e1, e2, _, e4, e5⟩ := ho1 q g2
     exact ⟨e4, (RvC.ext (hE.pure) cs _ _ rfl e5).lift⟩
   · exact cS.ext hE (fun _ _ => rfl) (hI.ok j z q g1 g2)
 · intro i j z t q r c hij g1 g2 g3 g4 g5 g6 g7
   rcases split g1 g3 with ⟨rfl, rfl, g3⟩ | ⟨rfl, rfl, g3⟩ | ⟨i1, _, m1, m3⟩
   · rcases split g2 g4 with ⟨rfl, _, _⟩ | ⟨rfl, rfl, g4⟩ | ⟨_, _, g2, g4⟩
     · exact hij rfl
     · exact apart g3 g4 g6 g7
     · exact hI.sepO i j _ t q r c hij hb g2 g3 g4 rfl (part1 g6) g7
   · rcases split g2 g4 with ⟨rfl, rfl, g4⟩ | ⟨rfl, _, _⟩ | ⟨j1, _, g2, g4⟩
     · exact apart g4 g3 g7 g6
     · exact hij rfl
     · obtain ⟨p, e1, e2⟩ := part2 g3 g6
       exact hI.sepO b j _ t p r c (fun e => j1 e.symm) hb g2 e1 g4 rfl e2 g7
   · rcases split g2 g4 with ⟨rfl, rfl, g4⟩ | ⟨rfl, rfl, g4⟩ | ⟨_, _, g2, g4⟩
     · exact hI.sepO i j z _ q r c hij m1 hb m3 g4 g5 g6 (part1 g7)
     · obtain ⟨p, e1, e2⟩ := part2 g4 g7
       exact hI.sepO i b z _ q p c i1 m1 hb m3 e1 g5 g6 e2
     · exact hI.sepO i j z t q r c hij m1 g2 m3 g4 g5 g6 g7
theorem Wk.xd (b k n : Nat) {d ez : Nat} {l : List (Value × RC)} {key : Value} {len : Nat} {cs : List AV} {s : List AV} {h : List Blk} (hb : h[b]? = some (.mapr d ez l)) (hk : l[k]? = some (key, .av (.hs n 0 len ez))) (hn : h[n]? = some (.own cs)) (hp0 : cn cs = []) (h0 : len = 0 -> cs = []) (hK : Nat.ble K b = true := by kernel_rfl) (hnb : Nat.beq n b = false := by kernel_rfl) :
  Wk K ⟨s, h⟩ ⟨s, (h.set b (.mapr 0 ez (l.set k (key, .row len ez cs)))).set n .dead⟩ :=
 have hnb : n ≠ b := fun e => by rw [e] at hnb; have := Nat.beq_refl b; rw [hnb] at this; cases this
 Wk.Bu b n hb rfl (lbT hK) hnb fun out B w Z p hI hp => by
  have hkl := aE hk
  obtain ⟨ar, h1, h2, h3, s1, s2⟩ := hI.ok b _ p hb hp
  obtain ⟨en, v1, v2, v4, v3⟩ := RvM.get _ _ _ k key _ h2 (zG hk)
  have rowsOf : ∀ {k' : Nat} {key' : Value} {len' es' : Nat} {cs' : List AV}, (l.set k (key, .row len ez cs))[k']? = some (key', .row len' es' cs') -> k' ≠ k -> l[k']? = some (key', .row len' es' cs') := by
   intro k' key' len' es' cs' g hne
   rcases br g with ⟨e, _⟩ | ⟨_, g⟩
   · exact (hne e.symm).elim
   · exact g
  have snd : ∀ {m : List (Value × RC)} {k' : Nat} {len' es' : Nat} {cs' : List AV}, (m.map (·.2))[k']? = some (.row len' es' cs') -> ∃ key', m[k']? = some (key', .row len' es' cs') := by
   intro m k' len' es' cs' g
   rw [List.getElem?_map] at g
   cases hm : m[k']? with
   | none => rw [hm] at g; cases g
   | some q => obtain ⟨key', x⟩ := q; rw [hm] at g; simp only [Option.map_some, Option.some.injEq] at g; subst g; exact ⟨key', rfl⟩
  have snd' : ∀ {m : List (Value × RC)} {k' : Nat} {key' : Value} {x : RC}, m[k']? = some (key', x) -> (m.map (·.2))[k']? = some x := by
   intro m k' key' x g; rw [List.getElem?_map, g]; rfl
  let f : Nat -> Option (Nat × Nat × Nat) := fun i => if i = k then (match Z[n]? with | some (some q) => some (q.blk, q.off, q.size) | _ => none) else p.subs i
  have fk : ∀ {sq : Nat × Nat × Nat}, f k = some sq -> ∃ q, Z[n]? = some (some q) /\ sq = (q.blk, q.off, q.size) := by
   intro sq e
   simp only [f, if_true] at e
   split at e
   · rename_i q hq; cases e; exact ⟨q, hq, rfl⟩
   · cases e
  have fo : ∀ {i : Nat}, i ≠ k -> f i = p.subs i := fun hi => by simp only [f, if_neg hi]
  refine ⟨f, ?_, fun mu' Z' hmu hπ => ⟨ar, h1, ?_, fun k' key' l' e' c' g => ?_, And.intro ?_ ?_⟩⟩
  · rintro c (g | ⟨k', y', l', e', c', q, g1, g2, g3⟩)
    · exact .inl (.inl g)
    · by_cases hkk : k' = k
      · subst hkk
        obtain ⟨q', e1, rfl⟩ := fk g2
        exact .inr ⟨_, q', hn, rfl, e1, g3⟩
      · exact .inl (.inr ⟨k', y', l', e', c', q, rowsOf g1 hkk, (fo hkk).symm.trans g2, g3⟩)
  · have e : (l.set k (key, .row len ez cs)).map rcE = (l.map rcE).set k (key, .unk) := by rw [List.map_set]; rfl
    rw [e]
    exact RvM.put _ _ 0 k en (RvM.sim hmu hπ 0 _ _ h2) v1 v2 trivial
  · rcases br g with ⟨rfl, e0⟩ | ⟨hne, g⟩
    · cases e0
      refine ⟨en, v1, ?_⟩
      rcases v3 with ⟨e1, e2⟩ | ⟨q, a, cap, g1, g2, g3, g4, g5⟩
      · exact .inl ⟨e1, h0 e1, e2⟩
      · obtain ⟨⟨c, e, o1, o2⟩, o3⟩ := hI.ok n _ q hn g1
        refine .inr ⟨(q.blk, q.off, q.size), a, cap, c, e, ?_, g2, g3, g4, by simpa using g5, o1, o2, h0, gN hmu cs _ _ hp0 o3⟩
        simp only [f, if_true, g1]
    · obtain ⟨u, u1, u2⟩ := h3 k' key' l' e' c' g
      exact ⟨u, u1, by show jl w mu' (f k') l' e' c' u.val; rw [fo (fun e => hne e.symm)]; exact jl.sF hmu u2⟩
  · intro k' l' e' c' q g1 g2
    obtain ⟨y1, g1⟩ := snd g1
    by_cases hkk : k' = k
    · subst hkk
      obtain ⟨q', e1, rfl⟩ := fk g2
      exact fun e => hI.sepO n b _ _ q' p p.blk hnb hn hb e1 hp rfl e (.inl rfl)
    · exact s1 k' l' e' c' q (snd' (rowsOf g1 hkk)) ((fo hkk).symm.trans g2)
  · intro k1 k2 l1 e1 l2 e2 c1 c2 q1 q2 hk12 g1 g2 g3 g4
    obtain ⟨y1, g1⟩ := snd g1
    obtain ⟨y2, g2⟩ := snd g2
    by_cases hk1 : k1 = k
    · subst hk1
      have hk2 : k2 ≠ k1 := fun e => hk12 e.symm
      obtain ⟨q', i1, rfl⟩ := fk g3
      exact fun e => hI.sepO n b _ _ q' p q2.1 hnb hn hb i1 hp rfl e (.inr ⟨k2, y2, l2, e2, c2, q2, rowsOf g2 hk2, (fo hk2).symm.trans g4, rfl⟩)
    · by_cases hk2 : k2 = k
      · subst hk2
        obtain ⟨q', i1, rfl⟩ := fk g4
        exact fun e => hI.sepO n b _ _ q' p q1.1 hnb hn hb i1 hp rfl e.symm (.inr ⟨k1, y1, l1, e1, c1, q1, rowsOf g1 hk1, (fo hk1).symm.trans g3, rfl⟩)
      · exact s2 k1 k2 l1 e1 l2 e2 c1 c2 q1 q2 hk12 (snd' (rowsOf g1 hk1)) (snd' (rowsOf g2 hk2)) ((fo hk1).symm.trans g3) ((fo hk2).symm.trans g4)
theorem Wk.Cm (b : Nat) {d ez : Nat} {l : List (Value × RC)} {s : List AV} {h : List Blk} (hb : h[b]? = some (.mapr d ez l)) : Wk K ⟨s, h⟩ ⟨s, h.set b (.map (l.map rJ))⟩ := fun out B w Z a hR => by
 have hI := hR.inv
 simp only at hI
 have hlt : b < h.length := aE hb
 have snd' : ∀ {m : List (Value × RC)} {k' : Nat} {key' : Value} {x : RC}, m[k']? = some (key', x) -> (m.map (·.2))[k']? = some x := by
  intro m k' key' x g; rw [List.getElem?_map, g]; rfl
 have hfo : ∀ {p : PB} {c : Nat}, (Blk.map (l.map rJ)).owns p c -> (Blk.mapr d ez l).owns p c := fun h => .inl h
 have hmuiff : ∀ x, aH out Z (h.set b (.map (l.map rJ))) x -> aH out Z h x := by
  rintro x (ho | ⟨i, y, p, g1, g2, g3, g4⟩)
  · exact .inl ho
  · rcases br g1 with ⟨rfl, rfl⟩ | ⟨_, g1'⟩
    · exact .inr ⟨_, _, p, hb, rfl, g3, hfo g4⟩
    · exact .inr ⟨i, y, p, g1', g2, g3, g4⟩
 have hno : ∀ (p : PB) (k : Nat) (key : Value) (len es : Nat) (cs : List AV) (q : Nat × Nat × Nat), Z[b]? = some (some p) -> l[k]? = some (key, .row len es cs) -> p.subs k = some q -> ¬ aH out Z (h.set b (.map (l.map rJ))) q.1 := by
  rintro p k key len es cs q hp h1 h2 (ho | ⟨i, y, r, g1, g2, g3, g4⟩)
  · exact (hI.baseO b _ p q.1 hb hp (.inr ⟨k, key, len, es, cs, q, h1, h2, rfl⟩)).1 (hI.out_lt _ ho)
  · rcases br g1 with ⟨rfl, rfl⟩ | ⟨hne, g1'⟩
    · rw [hp] at g3; cases g3
      have g4 : p.blk = q.1 := g4
      obtain ⟨_, _, _, _, s1, _⟩ := hI.ok _ _ p hb hp
      exact s1 k len es cs q (snd' h1) h2 g4.symm
    · exact hI.sepO i b y _ r p q.1 (fun e => hne e.symm) g1' hb g3 hp g2 g4 (.inr ⟨k, key, len, es, cs, q, h1, h2, rfl⟩)
 have hE : Ext B w w (aH out Z h) (aH out Z (h.set b (.map (l.map rJ)))) Z Z := ⟨fun _ _ => rfl, Nat.le_refl _, fun x _ hx => ⟨rfl, fun hx' => hx (hmuiff x hx')⟩, fun _ _ h => h, rfl, rfl, rfl, fun _ => Nat.le_refl _⟩
 refine ⟨Z, ⟨hR.defers, RvL.ext hE _ _ hR.slots, ⟨by simp [hI.len], hI.bound, hI.out_lt, ?_, ?_, ?_⟩⟩, hmuiff, jX.refl Z⟩
 · intro i x q c g1 g2 g3
   rcases br g1 with ⟨rfl, rfl⟩ | ⟨_, g1'⟩
   · exact hI.baseO _ _ q c hb g2 (hfo g3)
   · exact hI.baseO i x q c g1' g2 g3
 · intro i x q g1 g2
   rcases br g1 with ⟨rfl, rfl⟩ | ⟨_, g1'⟩
   · obtain ⟨ar, h1, h2, h3, h4⟩ := hI.ok _ _ q hb g2
     exact ⟨ar, h1, RvM.rJ hmuiff l _ _ 0 (fun k key len es cs s e1 e2 => hno q k key len es cs s g2 e1 e2) h2 h3⟩
   · exact cS.ext hE (fun _ _ => rfl) (hI.ok i x q g1' g2)
 · intro i j x y q r c hij g1 g2 g3 g4 g5 g6 g7
   rcases br g1 with ⟨rfl, rfl⟩ | ⟨_, g1'⟩
   · rcases br g2 with ⟨rfl, _⟩ | ⟨_, g2'⟩
     · exact hij rfl
     · exact hI.sepO _ j _ y q r c hij hb g2' g3 g4 rfl (hfo g6) g7
   · rcases br g2 with ⟨rfl, rfl⟩ | ⟨_, g2'⟩
     · exact hI.sepO i _ x _ q r c hij g1' hb g3 g4 g5 g6 (hfo g7)
     · exact hI.sepO i j x y q r c hij g1' g2' g3 g4 g5 g6 g7
section
variable {κ α : Type} [DecidableEq κ] {V : κ -> Value} {es : Nat} {c : α -> List AV} {l : List (κ × List α)} {x : κ}
def mrA (V : κ -> Value) (es : Nat) (c : α -> List AV) (p : κ × List α) : Value × RC := (V p.1, .row p.2.length es (p.2.flatMap c))
def mrs (V : κ -> Value) (es : Nat) (c : α -> List AV) (l : List (κ × List α)) : List (Value × RC) := l.map (mrA V es c)
def mro (V : κ -> Value) (es : Nat) (c : α -> List AV) (l : List (κ × List α)) (x : κ) (A : AV) : List (Value × RC) := (mrs V es c l).set (fu l x) (V x, .av A)
def mre (V : κ -> Value) (es : Nat) (c : α -> List AV) (l : List (κ × List α)) (x : κ) (A : AV) : List (Value × RC) := bif cW l x then mro V es c l x A else mrs V es c l ++ [(V x, .av A)]
theorem qq : ∀ {l : List (κ × List α)}, cW l x = true -> fu l x < l.length
 | [], h => by simp [cW] at h
 | p :: l, h => by
  simp only [cW, fu] at h ⊢
  cases hx : x == p.1 with
  | true => simp
  | false => rw [hx] at h; simp only [cond_false, List.length_cons]; have := qq (l := l) h; omega
theorem yk : ∀ {l : List (κ × List α)}, cW l x = true -> (mrs V es c l)[fu l x]? = some (mrA V es c (x, getM [] l x))
 | [], h => by simp [cW] at h
 | p :: l, h => by
  simp only [cW, fu, getM] at h ⊢
  cases hx : x == p.1 with
  | true => simp only [cond_true, mrs, List.map_cons, List.getElem?_cons_zero]; rw [eq_of_beq hx]
  | false => rw [hx] at h; simp only [cond_false, mrs, List.map_cons, List.getElem?_cons_succ]; exact yk (l := l) h
theorem wC {v : List α} : ∀ {l : List (κ × List α)}, cW l x = true -> (mrs V es c l).set (fu l x) (mrA V es c (x, v)) = mrs V es c (dT l x v)
 | [], h => by simp [cW] at h
 | p :: l, h => by
  simp only [cW, fu, dT] at h ⊢
  cases hx : x == p.1 with
  | true => rfl
  | false => rw [hx] at h; simp only [cond_false, mrs, List.map_cons, List.set_cons_succ]; have := wC (v := v) (l := l) h; simp only [mrs] at this; rw [this]
theorem vn {v : List α} : ∀ {l : List (κ × List α)}, cW l x = false -> mrs V es c l ++ [mrA V es c (x, v)] = mrs V es c (dT l x v)
 | [], h => rfl
 | p :: l, h => by
  simp only [cW, dT] at h ⊢
  cases hx : x == p.1 with
  | true => rw [hx] at h; simp at h
  | false => rw [hx] at h; simp only [cond_false, mrs, List.map_cons, List.cons_append]; have := vn (v := v) (l := l) h; simp only [mrs] at this; rw [this]
theorem gE : (mrs V es c l).length = l.length := by simp [mrs]
theorem uO {A : AV} (h : cW l x = false) : mro V es c l x A = mrs V es c l := by
 unfold mro
 rw [qn h, List.set_eq_of_length_le (by rw [gE]; exact Nat.le_refl _)]
theorem zR : iG ((mrs V es c l).map (·.2)) = [] := by
 induction l with
 | nil => rfl
 | cons p l ih => simpa [mrs, mrA, iG] using ih
theorem Wk.yI (b : Nat) (x : κ) {d : Nat} {s : List AV} {h : List Blk} (hb : h[b]? = some (.mapr d es (mrs V es c l)) := by kernel_rfl) (hK : Nat.ble K b = true := by kernel_rfl) :
  Wk K ⟨s, h⟩ ⟨s, h.set b (.mapr h.length es (mro V es c l x (.hs h.length 0 (getM [] l x).length es))) ++ [.own ((getM [] l x).flatMap c)]⟩ := by
 cases hx : cW l x with
 | true => exact Wk.Bo b (fu l x) hb (yk hx)
 | false =>
  rw [uO hx, oI hx]
  have h1 := Wk.dfM (K := K) (s := s) b h.length hb (lbT hK)
  exact h1.trans (Wk.fresh _)
theorem Wk.vJ (b n : Nat) {x : κ} {v : List α} {d len : Nat} {s : List AV} {h : List Blk} (hp : ∀ y, cn (c y) = []) (hl : v.length = len) (hb : h[b]? = some (.mapr d es (mre V es c l x (.hs n 0 len es))) := by kernel_rfl) (hn : h[n]? = some (.own (v.flatMap c)) := by kernel_rfl) (hK : Nat.ble K b = true := by kernel_rfl) (hnb : Nat.beq n b = false := by kernel_rfl) :
  Wk K ⟨s, h⟩ ⟨s, (h.set b (.mapr 0 es (mrs V es c (dT l x v)))).set n .dead⟩ := by
 subst hl
 cases hx : cW l x with
 | true =>
  have e : mre V es c l x (.hs n 0 v.length es) = mro V es c l x (.hs n 0 v.length es) := by simp only [mre, hx, cond_true]
  rw [e] at hb
  have := Wk.xd (K := K) (s := s) b (fu l x) n hb (key := V x) (by unfold mro; rw [List.getElem?_set_self (by rw [gE]; exact qq hx)]) hn (aA hp v) (fun h => cZ h) hK hnb
  unfold mro at this
  rw [List.set_set] at this
  rw [<- wC hx]; exact this
 | false =>
  have e : mre V es c l x (.hs n 0 v.length es) = mrs V es c l ++ [(V x, .av (.hs n 0 v.length es))] := by simp only [mre, hx, cond_false]
  rw [e] at hb
  have := Wk.xd (K := K) (s := s) b l.length n hb (key := V x) (by rw [List.getElem?_append_right (by rw [gE]; exact Nat.le_refl _), gE, Nat.sub_self]; rfl) hn (aA hp v) (fun h => cZ h) hK hnb
  rw [List.set_append_right _ _ (by rw [gE]; exact Nat.le_refl _), gE, Nat.sub_self] at this
  rw [<- vn hx]; exact this
theorem Wk.Dp (b : Nat) (V : κ -> Value) (es : Nat) (c : α -> List AV) {s : List AV} {h : List Blk} (hb : h[b]? = some (.map []) := by kernel_rfl) (hK : Nat.ble K b = true := by kernel_rfl) : Wk K ⟨s, h⟩ ⟨s, h.set b (.mapr 0 es (mrs V es c []))⟩ := Wk.mkM b es hb hK
theorem Wk.Ek (b : Nat) {d : Nat} {s : List AV} {h : List Blk} (hb : h[b]? = some (.mapr d es (mrs V es c l)) := by kernel_rfl) : Wk K ⟨s, h⟩ ⟨s, h.set b (.map (l.map (mpK V (slT c))))⟩ := by
 have := Wk.Cm (K := K) (s := s) b hb
 have e : (mrs V es c l).map rJ = l.map (mpK V (slT c)) := by
  simp only [mrs, List.map_map]
  rfl
 rwa [e] at this
theorem pKR {H : List Blk} {b : Nat} {r : List (Nat × Bool)} (V : κ -> Value) (d es : Nat) (c : α -> List AV) (l : List (κ × List α)) (rest : gu H r) (hb : H[b]? = some (.mapr d es (mrs V es c l)) := by kernel_rfl) : gu H ((b, false) :: r) :=
 ⟨by rw [hb]; exact zR, rest⟩
theorem sa {A : AV} (hV : th V) : ∀ (l : List (κ × List α)) (i : Nat), gA (V x) ((mro V es c l x A).map rcE) i = some (bif cW l x then some (i + fu l x, A) else none)
 | [], _ => rfl
 | p :: l, i => by
  cases hx : x == p.1 with
  | true =>
   simp only [mro, mrs, fu, cW, hx, cond_true, List.map_cons, List.set_cons_zero, rcE, gA, hV x x, beq_self_eq_true, Nat.add_zero]
  | false =>
   have := sa (A := A) hV l (i + 1)
   simp only [mro, mrs, fu, cW, hx, cond_false, List.map_cons, List.set_cons_succ, rcE, gA, hV x p.1, mrA] at this ⊢
   rw [this]
   cases cW l x <;> simp only [cond_true, cond_false]
   rw [show i + 1 + fu l x = i + (fu l x + 1) by omega]
variable {P : Program} {H : List Blk} {t kt e : TypeId} {b j : Nat} {A : AV}
theorem zy (hV : th V) (hu : P.underlying t = some (.map kt e)) (hk : dV P kt (V x) = true) (hz : oD P e = some (.at (.slice none 0 0))) (hb : H[b]? = some (.mapr j es (mro V es c l x (.hs j 0 (getM [] l x).length es)))) (hA : toV A = some (V x)) :
  orE (eR P H t (.mp b) A) (fy P H t (.mp b) A) = some (.eff (.tup [.hs j 0 (getM [] l x).length es, .at (.int .i64 ((fu l x : Nat) : Int))]) [(b, .mapr j es (mre V es c l x (.hs j 0 (getM [] l x).length es)))]) := by
 have h0 : eR P H t (.mp b) A = none := by simp only [eR, hu, fO, hb]
 rw [h0]
 simp only [orE, fy, hu, jS, hb, hk, hz, hA, sa hV]
 cases hx : cW l x with
 | true =>
  have h1 : rK (mro V es c l x (.hs j 0 (getM [] l x).length es)) (fu l x) = some (V x, .hs j 0 (getM [] l x).length es) := by
   unfold rK mro
   rw [List.getElem?_set_self (by rw [gE]; exact qq hx)]
  have h2 : (mro V es c l x (.hs j 0 (getM [] l x).length es)).set (fu l x) (V x, .av (.hs j 0 (getM [] l x).length es)) = mro V es c l x (.hs j 0 (getM [] l x).length es) := by
   unfold mro; rw [List.set_set]
  simp only [cond_true, Nat.zero_add, h1, h2, mre, hx]
 | false =>
  rw [oI hx, uO hx]
  simp only [cond_false, gE, List.length_nil, mre, hx, qn hx]
theorem zz {v : AV} (hb : H[b]? = some (.mapr j es (mre V es c l x A))) :
  orE (dv H (.mp b) (.at (.int .i64 ((fu l x : Nat) : Int))) v) (dr H (.mp b) (.at (.int .i64 ((fu l x : Nat) : Int))) v) = some (.eff .unk [(b, .mapr j es (mre V es c l x v))]) := by
 have h0 : dv H (.mp b) (.at (.int .i64 ((fu l x : Nat) : Int))) v = none := by simp only [dv, fO, hb]
 rw [h0]
 have hd : decide ((0 : Int) <= ((fu l x : Nat) : Int)) = true := decide_eq_true (by omega)
 simp only [orE, dr, jS, hb, rO, hd, Int.toNat_natCast]
 cases hx : cW l x with
 | true =>
  have h1 : rK (mro V es c l x A) (fu l x) = some (V x, A) := by
   unfold rK mro
   rw [List.getElem?_set_self (by rw [gE]; exact qq hx)]
  have h2 : (mro V es c l x A).set (fu l x) (V x, .av v) = mro V es c l x v := by
   unfold mro; rw [List.set_set]
  simp only [mre, hx, cond_true, h1, h2]
 | false =>
  have h1 : rK (mrs V es c l ++ [(V x, RC.av A)]) l.length = some (V x, A) := by
   unfold rK
   rw [List.getElem?_append_right (by rw [gE]; exact Nat.le_refl _), gE, Nat.sub_self]; rfl
  have h2 : (mrs V es c l ++ [(V x, RC.av A)]).set l.length (V x, RC.av v) = mrs V es c l ++ [(V x, RC.av v)] := by
   rw [List.set_append_right _ _ (by rw [gE]; exact Nat.le_refl _), gE, Nat.sub_self]; rfl
  simp only [mre, hx, cond_false, qn hx, h1, h2]
end
end Go.Eng

