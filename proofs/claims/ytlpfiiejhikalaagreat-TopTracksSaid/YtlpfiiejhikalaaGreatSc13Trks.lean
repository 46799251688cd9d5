import Derived.Test.YtlpfiiejhikalaaGreatSc10Trks
import Derived.Shelf.SlSortCmp.InsertionK
import Derived.Shelf.SlSortCmp.Kit1
set_option linter.all false
set_option linter.unusedVariables false
namespace Go.Eng
open Go Go.RowKit Go.Proofs
variable [Dr]
variable {K : Nat} {P : Program}
theorem ux {W W' : World} {mu mu' : Nat -> Prop} (h : @Ext ⟨true⟩ (Lo W.heap.size) W W' mu mu' [] []) : ∃ q os, W' = Sort.grow (W.drewN q) os := by
 refine ⟨W'.drawn - W.drawn, W'.heap.extract W.heap.size W'.heap.size, ?_⟩
 obtain ⟨hl, hs, _, _, h1, h2, h3, hd⟩ := h
 have hd := hd rfl
 have hh : W'.heap = W.heap ++ W'.heap.extract W.heap.size W'.heap.size := by
  apply Array.ext_getElem?
  intro i
  by_cases hi : i < W.heap.size
  · rw [Array.getElem?_append_left hi]; exact hl i hi
  · rw [Array.getElem?_append_right (by omega), Array.getElem?_extract]
    by_cases hi2 : i < W'.heap.size
    · rw [if_pos (by omega)]; congr 1; omega
    · rw [if_neg (by omega)]; exact Array.getElem?_eq_none (by omega)
 obtain ⟨a1, a2, a3, a4, a5⟩ := W
 obtain ⟨b1, b2, b3, b4, b5⟩ := W'
 simp only [World.mk.injEq, Sort.grow, World.drewN] at *
 subst h1 h2 h3
 exact ⟨hh, rfl, by omega, rfl, rfl⟩
theorem p8 {w : World} {mu : Nat -> Prop} {Z : List (Option PB)} {cs : List AV} {vs : List Value} (h : RvL w mu Z cs vs) : Rv w mu Z (.agg cs) (.agg vs.toArray) := ⟨vs.toArray, rfl, by simpa using h⟩
theorem wy {α : Type} [Inhabited α] {γ : Type} {c : γ -> List AV} {g : FuncId} {caps : List AV} {cf : γ -> γ -> Int} {el : α -> γ} {enc : α -> List Value} {k blk off size : Nat} {w : World} {mu : Nat -> Prop} {cb : List Value}
  (hcmp : ∀ x y : α, @bo ⟨true⟩ P g ([.agg (c (el x)), .agg (c (el y))] ++ caps) (.at (.int .i64 (cf (el x) (el y)))))
  (hmu : ∀ b, mu b -> b < w.heap.size) (hblk : mu blk) (hcb : RvL w mu [] caps cb) (henc : ∀ x, RvL w mu [] (c (el x)) (enc x)) :
  CmpLays P g cb.toArray enc k (fun x y => cf (el x) (el y)) blk off size w := by
 intro m os dk _ x y
 have hsz : w.heap.size <= (sortWorldK enc k w blk off m dk os).heap.size := by
  simp [sortWorldK, Sort.putRowK, Sort.putRow, Sort.mapBlock, Sort.grow, Sort.ahead]
 have hE : Ext (fun _ => False) w (sortWorldK enc k w blk off m dk os) mu mu [] [] := by
  refine ⟨fun _ h => h.elim, hsz, fun b hb hn => ⟨?_, hn⟩, fun _ _ h => h, rfl, rfl, rfl, fun _ => Nat.le_add_right _ _⟩
  have hne : blk ≠ b := by rintro rfl; exact hn hblk
  show ((Sort.putRowK enc k (Sort.ahead w m) blk off dk).heap ++ os)[b]? = _
  rw [Array.getElem?_append_left (by simp [Sort.putRowK, Sort.putRow, Sort.mapBlock, Sort.ahead]; exact hb)]
  simp [Sort.putRowK, Sort.putRow, Sort.mapBlock, Array.getElem?_modify, hne, Sort.ahead]
 have hargs : RvL (sortWorldK enc k w blk off m dk os) mu [] ([.agg (c (el x)), .agg (c (el y))] ++ caps) (.agg (enc x).toArray :: .agg (enc y).toArray :: cb) :=
  ⟨_, _, rfl, p8 (RvL.ext hE _ _ (henc x)), _, _, rfl, p8 (RvL.ext hE _ _ (henc y)), RvL.ext hE _ _ hcb⟩
 have h := hcmp x y mu (sortWorldK enc k w blk off m dk os) _ (fun b hb => Nat.lt_of_lt_of_le (hmu b hb) hsz) hargs
 have e : (.agg (enc x).toArray :: .agg (enc y).toArray :: cb : List Value).toArray = #[.agg (enc x).toArray, .agg (enc y).toArray] ++ cb.toArray := by simp
 rw [e] at h
 refine h.mono ?_
 rintro e' w' ⟨u, rfl, hX, hu⟩
 have hu : u = .int .i64 (cf (el x) (el y)) := hu
 exact ⟨by rw [hu], ux hX⟩
structure yD {γ : Type} (cf : γ -> γ -> Int) (l l' : List γ) : Prop where
 irr : ∀ x ∈ l, ¬ cf x x < 0
 tr : ∀ x ∈ l, ∀ y ∈ l, ∀ z ∈ l, cf x y < 0 -> cf y z < 0 -> cf x z < 0
 ntr : ∀ x ∈ l, ∀ y ∈ l, ∀ z ∈ l, ¬ cf x y < 0 -> ¬ cf y z < 0 -> ¬ cf x z < 0
 one : ∀ l'' : List γ, l''.Perm l -> l''.Pairwise (fun a b => ¬ cf b a < 0) -> l'' = l'
def jK (P : Program) (f g : FuncId) (k : Nat) : Prop := ∀ (α : Type) [Inhabited α] (enc : α -> List Value) (cf : α -> α -> Int) (cb : Array Value) (blk off cap : Nat) (d : Array α) (w : World),
 (∀ x, (enc x).length = k) -> (∀ x, ∀ v ∈ enc x, v.oneCell' = true) -> Sort.SWO (ltOf cf) -> CmpLays P g cb enc k cf blk off d.size w -> Sort.HoldsK enc k w blk off d -> blk < w.heap.size -> d.size < 4611686018427387904 ->
 Calls P f #[.slice (some ⟨blk, off, none⟩) d.size cap, .func (.func g) #[] cb] w fun e w' => e = .returned (.tuple #[]) /\ ∃ d' n os, Sort.PermIn 0 d.size d d' /\ Sort.SortedIn (ltOf cf) 0 d.size d' /\ w' = sortWorldK enc k w blk off n d' os
theorem ud {γ : Type} {c : γ -> List AV} {k : Nat} (hk : ∀ x, (c x).length = k) : ∀ (l : List γ) (i t : Nat) (hi : i < l.length), t < k -> (l.flatMap c)[i * k + t]? = (c l[i])[t]?
 | [], i, _, hi, _ => by simp at hi
 | x :: l, 0, t, _, ht => by rw [List.flatMap_cons, Nat.zero_mul, Nat.zero_add, List.getElem?_append_left (by rw [hk]; exact ht)]; rfl
 | x :: l, i + 1, t, hi, ht => by
  rw [List.flatMap_cons, List.getElem?_append_right (by rw [hk, Nat.succ_mul]; omega), hk, show (i + 1) * k + t - k = i * k + t by rw [Nat.succ_mul]; omega, ud hk l i t (by simpa using hi) ht]
  rfl
theorem kS {γ β : Type} {c : γ -> List β} {k : Nat} (hk : ∀ x, (c x).length = k) : ∀ l : List γ, (l.flatMap c).length = l.length * k
 | [] => by simp
 | x :: l => by rw [List.flatMap_cons, List.length_append, hk, kS hk l, List.length_cons, Nat.succ_mul]; omega
theorem wi {w : World} {mu : Nat -> Prop} {Z : List (Option PB)} : ∀ (cs : List AV) (vs : List Value), cs.length = vs.length -> (∀ t (h : t < cs.length) (h' : t < vs.length), Rv w mu Z cs[t] vs[t]) -> RvL w mu Z cs vs
 | [], [], _, _ => rfl
 | [], _ :: _, h, _ => by simp at h
 | _ :: _, [], h, _ => by simp at h
 | c :: cs, v :: vs, h, hv => ⟨v, vs, rfl, hv 0 (by simp) (by simp), wi cs vs (by simpa using h) fun t h1 h2 => hv (t + 1) (by simpa using h1) (by simpa using h2)⟩
theorem tX {α : Type} {w : World} {mu : Nat -> Prop} {Z : List (Option PB)} {c : α -> List AV} {enc : α -> List Value} (h : ∀ x, RvL w mu Z (c x) (enc x)) : ∀ l : List α, RvL w mu Z (l.flatMap c) (l.flatMap enc)
 | [] => rfl
 | x :: l => by rw [List.flatMap_cons, List.flatMap_cons]; exact RvL.append _ _ _ _ (h x) (tX h l)
theorem rk {α : Type} [Inhabited α] {enc : α -> List Value} {k : Nat} (hk : ∀ x, (enc x).length = k) (d : Array α) : (Sort.flatK enc k d).toList = d.toList.flatMap enc := by
 apply List.ext_getElem?
 intro j
 by_cases hj : j < d.size * k
 · have k0 : 0 < k := by rcases Nat.eq_zero_or_pos k with h | h
                         · subst h; simp at hj
                         · exact h
   have hdiv : j / k < d.size := Nat.div_lt_of_lt_mul (by rw [Nat.mul_comm]; exact hj)
   have hmod := Nat.mod_lt j k0
   have e := Nat.div_add_mod j k
   have hl : (d.toList.flatMap enc).length = d.size * k := by rw [kS hk]; simp
   have h1 : (Sort.flatK enc k d).toList[j]? = some ((enc d[j / k]!)[j % k]!) := by
    have hs : j < (Sort.flatK enc k d).size := by simpa using hj
    rw [Array.getElem?_toList, Array.getElem?_eq_getElem hs, <- getElem!_pos (Sort.flatK enc k d) j hs, Sort.get_flatK _ _ _ _ hj]
   have h2 : ∀ (l : List α) (i t : Nat) (hi : i < l.length), t < k -> (l.flatMap enc)[i * k + t]? = (enc l[i])[t]? := by
    intro l
    induction l with
    | nil => intro i t hi; simp at hi
    | cons x l ih =>
     intro i t hi ht
     cases i with
     | zero => rw [List.flatMap_cons, Nat.zero_mul, Nat.zero_add, List.getElem?_append_left (by rw [hk]; exact ht)]; rfl
     | succ i =>
      rw [List.flatMap_cons, List.getElem?_append_right (by rw [hk, Nat.succ_mul]; omega), hk, show (i + 1) * k + t - k = i * k + t by rw [Nat.succ_mul]; omega, ih i t (by simpa using hi) ht]
      rfl
   have h3 := h2 d.toList (j / k) (j % k) (by simpa using hdiv) hmod
   rw [show j / k * k + j % k = j by rw [Nat.mul_comm]; exact e] at h3
   rw [h1, h3]
   have ed : d[j / k]! = d.toList[j / k]'(by simpa using hdiv) := by rw [getElem!_pos d _ hdiv]; simp
   rw [ed, geT (by rw [hk]; exact hmod), getElem!_pos _ _ (by rw [hk]; exact hmod)]
 · rw [List.getElem?_eq_none (by simp; omega), List.getElem?_eq_none (by rw [kS hk]; simp; omega)]
theorem bx.CL {γ : Type} {c : γ -> List AV} {k : Nat} {l l' : List γ} {Hc : List Blk} {caps caps' : List AV} {f g : FuncId} {cf : γ -> γ -> Int}
  (hs : jK P f g k) (hk : ∀ x, (c x).length = k) (hpure : ∀ x, cn (c x) = []) (h0 : 0 < l.length) (hlen : l.length < 4611686018427387904)
  (hcaps : SnL (.own (l.flatMap c) :: Hc) (fun b => b != 0) caps caps')
  (hcmp : ∀ x ∈ l, ∀ y ∈ l, @bo ⟨true⟩ P g ([.agg (c x), .agg (c y)] ++ caps') (.at (.int .i64 (cf x y)))) (hS : yD cf l l') :
  bx K P f [.hs 0 0 l.length k, .fn g [] caps] (.own (l.flatMap c) :: Hc) (fR []) (.own (l'.flatMap c) :: Hc) := by
 intro out B w Z vs hI ha
 obtain ⟨v, vs', rfl, hv, v2, vs2, rfl, hf, hnil⟩ := ha
 have hnil : vs2 = [] := hnil
 subst hnil
 rcases hv with ⟨hz, _⟩ | ⟨p, a, cap, hp, rfl, hcap, hspot, hadr⟩
 · omega
 obtain ⟨rfl, hfit⟩ := hadr (by omega)
 obtain ⟨fa, fc, rfl, hfa, hfc⟩ := hf
 have hfa : fa.toList = [] := hfa
 have hfa : fa = #[] := by simpa using hfa
 subst hfa
 obtain ⟨⟨cells, ty, hb, hcs⟩, hC⟩ := hI.ok 0 _ p rfl hp
 have hblk := (hI.base 0 _ p rfl hp rfl).2
 generalize hH : (.own (l.flatMap c) :: Hc : List Blk) = H at *
 have hH0 : H[0]? = some (.own (l.flatMap c)) := by rw [<- hH]; rfl
 have hmul : ∀ b, aH out Z H b -> b < w.heap.size := by
  rintro b (h | ⟨i, x, q, h1, h2, h3, h4⟩)
  · exact hI.bound _ (hI.out_lt _ h)
  · exact (hI.baseO i x q b h1 h3 h4).2
 have hmuB : aH out Z H p.blk := .inr ⟨0, _, p, hH0, rfl, hp, rfl⟩
 let mu' : Nat -> Prop := fun b => out b \/ b = p.blk
 have hsub : ∀ b, mu' b -> aH out Z H b := fun b h => h.elim .inl fun e => e ▸ hmuB
 have hlook : r9 w (aH out Z H) mu' Z H (fun b => b != 0) := by
  refine ⟨?_, ?_⟩
  · intro b q cs hok hbl hq
    have hb0 : b ≠ 0 := by simpa using hok
    have hlive : ∃ y, H[b]? = some y /\ y.isLive = true := by rcases hbl with h | h <;> exact ⟨_, h, rfl⟩
    obtain ⟨y, hy, hyl⟩ := hlive
    refine ⟨fB hI hbl hq, ?_⟩
    rintro (ho | he)
    · exact (hI.base b y q hy hq hyl).1 (hI.out_lt _ ho)
    · exact hI.sepO 0 b _ y p q _ (Ne.symm hb0) hH0 hy hp hq rfl rfl (by rw [<- he]; exact Blk.iZ hyl)
  · intro b q rs hok hb hq
    have hb0 : b ≠ 0 := by simpa using hok
    have hno : ∀ c, (Blk.rows rs).owns q c -> ¬ mu' c := by
     rintro c hc (ho | he)
     · exact (hI.baseO b _ q c hb hq hc).1 (hI.out_lt _ ho)
     · exact hI.sepO 0 b _ _ p q _ (Ne.symm hb0) hH0 hb hp hq rfl rfl (by rw [<- he]; exact hc)
    exact ⟨RvW.frz hsub rs _ _ _ (fun k len es cs s e1 e2 => hno s.1 (.inr ⟨k, len, es, cs, s, e1, e2, rfl⟩)) (hI.ok b _ q hb hq).2.1, hno _ (.inl rfl)⟩
 have hcb := hcaps w _ _ Z _ hlook hsub hfc
 haveI : Inhabited (Fin l.length) := ⟨⟨0, h0⟩⟩
 have hcell : ∀ (i : Fin l.length) (t : Nat), t < k -> ∃ u, w.cell? ⟨p.blk, p.off + 0 + (i.1 * k + t), none⟩ = some u /\ u.oneCell' = true /\ ∃ A, (c l[i.1])[t]? = some A /\ Rv w (aH out Z H) Z A u := by
  intro i t ht
  have hA : (c l[i.1])[t]? = some ((c l[i.1])[t]'(by rw [hk]; exact ht)) := geT (by rw [hk]; exact ht)
  obtain ⟨u, g1, g2, g3⟩ := RvC.get _ p.blk p.off (i.1 * k + t) _ hC (by rw [ud hk l i.1 t i.2 ht]; exact hA)
  exact ⟨u, by rw [Nat.add_zero]; exact g1, g2, _, hA, g3⟩
 let enc : Fin l.length -> List Value := fun i => (List.range k).map fun t => (w.cell? ⟨p.blk, p.off + 0 + (i.1 * k + t), none⟩).getD default
 have hek : ∀ i, (enc i).length = k := fun i => by simp [enc]
 have hee : ∀ i t (h : t < (enc i).length) u, w.cell? ⟨p.blk, p.off + 0 + (i.1 * k + t), none⟩ = some u -> (enc i)[t] = u := fun i t h u hu => by simp only [enc, List.getElem_map, List.getElem_range, hu, Option.getD_some]
 have he1 : ∀ i, ∀ v ∈ enc i, v.oneCell' = true := by
  intro i v hv
  obtain ⟨t, ht, rfl⟩ := List.getElem_of_mem hv
  obtain ⟨u, g1, g2, _⟩ := hcell i t (by rw [hek] at ht; exact ht)
  rw [hee i t ht u g1]; exact g2
 have hrv : ∀ i, RvL w mu' [] (c l[i.1]) (enc i) := by
  intro i
  refine jb (Z := Z) hsub _ _ (hpure _) (wi _ _ (by rw [hk, hek]) fun t h1 h2 => ?_)
  obtain ⟨u, g1, _, A, g3, g4⟩ := hcell i t (by rw [hek] at h2; exact h2)
  rw [hee i t h2 u g1]
  rw [geT h1] at g3
  cases g3; exact g4
 let d : Array (Fin l.length) := Array.ofFn id
 have hds : d.size = l.length := by simp [d]
 have hdl : d.toList.map (fun i => l[i.1]) = l := by
  apply List.ext_getElem?
  intro j
  by_cases hj : j < l.length
  · simp [d, hj]
  · rw [List.getElem?_eq_none (by simp [d]; omega), List.getElem?_eq_none (by omega)]
 have hHold : Sort.HoldsK enc k w p.blk (p.off + 0) d := by
  intro j hj
  have hj : j < d.size * k := by simpa using hj
  have k0 : 0 < k := by rcases Nat.eq_zero_or_pos k with h | h
                        · subst h; simp at hj
                        · exact h
  have hdiv : j / k < d.size := Nat.div_lt_of_lt_mul (by rw [Nat.mul_comm]; exact hj)
  have hmod := Nat.mod_lt j k0
  have e := Nat.div_add_mod j k
  have ed : d[j / k]! = ⟨j / k, by omega⟩ := by rw [getElem!_pos d _ hdiv]; simp [d]
  refine ⟨?_, by simp [World.frozen?, hb]⟩
  rw [Sort.get_flatK _ _ _ _ hj, ed]
  obtain ⟨u, g1, _⟩ := hcell ⟨j / k, by omega⟩ (j % k) hmod
  have g1' := g1
  rw [show (⟨j / k, by omega⟩ : Fin l.length).1 * k + j % k = j by show j / k * k + j % k = j; rw [Nat.mul_comm]; exact e] at g1'
  rw [g1', getElem!_pos _ _ (by rw [hek]; exact hmod), hee _ _ _ u g1]; rfl
 have hswo : Sort.SWO (ltOf fun i j : Fin l.length => cf l[i.1] l[j.1]) := by
  have m : ∀ i : Fin l.length, l[i.1] ∈ l := fun i => List.getElem_mem _
  refine ⟨fun x => decide_eq_false (hS.irr _ (m x)), fun x y z h1 h2 => decide_eq_true (hS.tr _ (m x) _ (m y) _ (m z) (dcT h1) (dcT h2)), fun x y z h1 h2 => decide_eq_false (hS.ntr _ (m x) _ (m y) _ (m z) (dcF h1) (dcF h2))⟩
 have hcl := wy (P := P) (α := Fin l.length) (c := c) (g := g) (caps := caps') (cf := cf) (el := fun i => l[i.1]) (enc := enc) (k := k) (blk := p.blk) (off := p.off + 0) (size := d.size) (w := w) (mu := mu') (cb := fc.toList)
  (fun x y => hcmp _ (List.getElem_mem _) _ (List.getElem_mem _)) (fun b h => hmul b (hsub b h)) (.inr rfl) hcb hrv
 have hrun := hs (Fin l.length) enc (fun i j => cf l[i.1] l[j.1]) fc.toList.toArray p.blk (p.off + 0) cap d w hek he1 hswo hcl hHold hblk (by rw [hds]; exact hlen)
 rw [hds] at hrun
 have efc : fc.toList.toArray = fc := by simp
 rw [efc] at hrun
 refine hrun.mono ?_
 rintro e w' ⟨rfl, d', n, os, hperm, hsorted, rfl⟩
 obtain ⟨hps, _, hpl⟩ := hperm
 have hps : d'.size = l.length := by rw [hps, hds]
 have hex : ∀ q : Array (Fin l.length), q.size = l.length -> q.extract 0 l.length = q := fun q hq => (congrArg (fun m => q.extract 0 m) hq.symm).trans (by simp)
 rw [hex _ hps, hex _ hds] at hpl
 have hl' : d'.toList.map (fun i => l[i.1]) = l' := by
  refine hS.one _ ((hpl.map _).trans (by rw [hdl])) ?_
  rw [List.pairwise_map, List.pairwise_iff_getElem]
  intro i j hi hj hij
  have hi' : i < d'.size := by simpa using hi
  have hj' : j < d'.size := by simpa using hj
  have := hsorted i j (Nat.zero_le _) hij (by omega)
  rw [getElem!_pos d' i hi', getElem!_pos d' j hj'] at this
  simpa using dcF this
 have hsize : (Sort.flatK enc k d').size = l.length * k := by simp [hps]
 have hcellN : ∀ j v, (Sort.flatK enc k d').toList[j]? = some v -> (Sort.putRowK enc k (Sort.ahead w n) p.blk (p.off + 0) d').cell? ⟨p.blk, p.off + 0 + j, none⟩ = some v := by
  intro j v hj
  have hjl : j < (Sort.flatK enc k d').size := by have := aE hj; simpa using this
  have h := (Sort.holdsK_putRowK enc k (Sort.ahead w n) p.blk (p.off + 0) d d' hHold (by rw [hps, hds])) j hjl
  rw [h.1]
  rw [Array.getElem?_toList, Array.getElem?_eq_getElem hjl] at hj
  rw [getElem!_pos _ j hjl]
  exact hj
 obtain ⟨hE, hI'⟩ := hI.kO (w' := Sort.putRowK enc k (Sort.ahead w n) p.blk (p.off + 0) d') (i := 0) hH0 hp rfl (.own (l'.flatMap c))
  (by simp [Sort.putRowK, Sort.putRow, Sort.mapBlock, Sort.ahead]) (fun b hne => by simp [Sort.putRowK, Sort.putRow, Sort.mapBlock, Sort.ahead, Array.getElem?_modify, Ne.symm hne]) rfl rfl rfl (fun _ => Nat.le_add_right _ _) (fun hE => by
   have hlenC : (l'.flatMap c).length = (l.flatMap c).length := by rw [kS hk, kS hk, <- hl']; simp [hps]
   refine ⟨⟨Sort.putCells id (p.off + 0) (Sort.flatK enc k d') cells, ty, by simp [Sort.putRowK, Sort.putRow, Sort.mapBlock, Sort.ahead, Array.getElem?_modify, hb, Sort.onCells], by simp [Sort.putCells, hcs]⟩, ?_⟩
   refine ff _ (Sort.flatK enc k d').toList _ _ ?_ ?_ (fun j v hj => by have := hcellN j v hj; rwa [Nat.add_zero] at this)
   · have e : l'.flatMap c = d'.toList.flatMap (fun i => c l[i.1]) := by rw [<- hl', List.flatMap_map]
     have hq : RvL w (aH out Z H) Z (d'.toList.flatMap fun i => c l[i.1]) (d'.toList.flatMap enc) := tX (fun i => wi _ _ (by rw [hk, hek]) fun t h1 h2 => by
      obtain ⟨u, g1, _, A, g3, g4⟩ := hcell i t (by rw [hek] at h2; exact h2)
      rw [hee i t h2 u g1]
      rw [geT h1] at g3
      cases g3; exact g4) _
     rw [<- e] at hq
     rw [rk hek]
     exact RvL.ext hE _ _ hq
   · rw [rk hek]
     intro v hv
     obtain ⟨i, _, hv⟩ := List.mem_flatMap.1 hv
     exact he1 i v hv)
 have hset : H.set 0 (.own (l'.flatMap c)) = .own (l'.flatMap c) :: Hc := by rw [<- hH]; rfl
 rw [hset] at hE hI'
 have hE2 : Ext B _ (Sort.grow (Sort.putRowK enc k (Sort.ahead w n) p.blk (p.off + 0) d') os) (aH out Z (.own (l'.flatMap c) :: Hc)) (aH out Z (.own (l'.flatMap c) :: Hc)) Z Z := pr os hI'.bound
 have hE3 := hE.trans hE2
 exact ⟨_, Z, rfl, ⟨hE3.low, hE3.size, hE3.keep, hE3.os, hE3.tape, hE3.output, jX.refl Z, hE3.drawn⟩, hI'.A7 os, ⟨#[], rfl, rfl⟩⟩
end Go.Eng


set_option linter.unusedVariables false
namespace Go.Eng
open Go Go.RowKit Go.Proofs
variable [Dr]
variable {K : Nat} {P : Program}
end Go.Eng

