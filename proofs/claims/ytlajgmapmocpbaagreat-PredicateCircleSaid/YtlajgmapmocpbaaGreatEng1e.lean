/- The engine, part 1: abstract values, blocks, the relation to memory, and what a step may do to it. -/
import Derived.Calls
import Derived.Below
import Derived.LoopN
import Derived.Orders
import Derived.Laws.Append
import Derived.Laws.AppendOwn
import Derived.Laws.MakeOwn
import Derived.Laws.CopyRow
import Derived.Laws.Cells
import Derived.Laws.Build
import Derived.Laws.StructEq
set_option linter.unusedSimpArgs false
set_option linter.unusedVariables false
namespace Go.Eng
open Go

inductive AV where
  | unk
  | at (v : Value)
  | sl (nl : Bool) (cs : List AV) (len : Nat)
  | pp (cs : List AV) (off : Nat)
  | hs (b off len es : Nat)
  | hp (b off : Nat)
  | mp (b : Nat)
  | agg (cs : List AV)
  | tup (cs : List AV)
  | fn (f : FuncId) (fs cs : List AV)
  deriving Inhabited

structure PB where
  blk : Nat
  off : Nat
  size : Nat

inductive Blk where
  | dead
  | own (cs : List AV)
  | fix (cs : List AV)
  | map (es : List (Value × AV))
  deriving Inhabited

def Blk.isMut : Blk → Bool | .own _ | .map _ => true | _ => false
def Blk.isLive : Blk → Bool | .dead => false | _ => true

mutual
def Rv (w : World) (mu : Nat → Prop) (π : List (Option PB)) : AV → Value → Prop
  | .unk, _ => True
  | .at x, v => v = x
  | .sl nl cs len, v => (nl = true ∧ len = 0 ∧ cs = [] ∧ v = .slice none 0 0) ∨
      (∃ b o cap, v = .slice (some ⟨b, o, none⟩) len cap ∧ len ≤ cap ∧ (cs ≠ [] → ¬ mu b) ∧ RvC w mu [] cs b o) ∨ (len = 0 ∧ cs = [] ∧ ∃ a cap, v = .slice (some a) 0 cap)
  | .pp cs off, v => ∃ b o, v = .pointer (some ⟨b, o + off, none⟩) ∧ (cs ≠ [] → ¬ mu b) ∧ RvC w mu [] cs b o
  | .hs i off len es, v => (len = 0 ∧ v = .slice none 0 0) ∨ ∃ p a cap, π[i]? = some (some p) ∧ v = .slice (some a) len cap ∧ len ≤ cap ∧ a.spot = none ∧
      (0 < cap → a = ⟨p.blk, p.off + off, none⟩ ∧ p.off + off + cap * es ≤ p.size)
  | .hp i off, v => ∃ p, π[i]? = some (some p) ∧ v = .pointer (some ⟨p.blk, p.off + off, none⟩)
  | .mp i, v => ∃ p, π[i]? = some (some p) ∧ v = .map (some p.blk)
  | .agg cs, v => ∃ vs, v = .agg vs ∧ RvL w mu π cs vs.toList
  | .tup cs, v => ∃ vs, v = .tuple vs ∧ RvL w mu π cs vs.toList
  | .fn f fs cs, v => ∃ a c, v = .func (.func f) a c ∧ RvL w mu π fs a.toList ∧ RvL w mu π cs c.toList
def RvC (w : World) (mu : Nat → Prop) (π : List (Option PB)) : List AV → Nat → Nat → Prop
  | [], _, _ => True
  | c :: cs, b, o => (∃ v, w.cell? ⟨b, o, none⟩ = some v ∧ v.oneCell' = true ∧ Rv w mu π c v) ∧ RvC w mu π cs b (o + 1)
def RvL (w : World) (mu : Nat → Prop) (π : List (Option PB)) : List AV → List Value → Prop
  | [], vs => vs = []
  | c :: cs, vs => ∃ v vs', vs = v :: vs' ∧ Rv w mu π c v ∧ RvL w mu π cs vs'
end

/-- The blocks below a number. -/
def Lo (n : Nat) : Nat → Prop := fun b => b < n

/-- What a step does to what was there; the blocks of B stay. -/
structure Ext (B : Nat → Prop) (w w' : World) (mu mu' : Nat → Prop) (π π' : List (Option PB)) : Prop where
  low : ∀ b, B b → w'.heap[b]? = w.heap[b]?
  size : w.heap.size ≤ w'.heap.size
  keep : ∀ b, b < w.heap.size → ¬ mu b → w'.heap[b]? = w.heap[b]? ∧ ¬ mu' b
  pre : ∀ (i : Nat) (p : PB), π[i]? = some (some p) → π'[i]? = some (some p)
  os : w'.os = w.os
  tape : w'.tape = w.tape
  output : w'.output = w.output

theorem Ext.refl {B : Nat → Prop} (w : World) (mu : Nat → Prop) (π : List (Option PB)) : Ext B w w mu mu π π := ⟨fun _ _ => rfl, Nat.le_refl _, fun _ _ h => ⟨rfl, h⟩, fun _ _ h => h, rfl, rfl, rfl⟩
theorem Ext.trans {B : Nat → Prop} {w w' w'' : World} {mu mu' mu'' : Nat → Prop} {π π' π'' : List (Option PB)} (h : Ext B w w' mu mu' π π') (k : Ext B w' w'' mu' mu'' π' π'') : Ext B w w'' mu mu'' π π'' :=
  ⟨fun b hb => (k.low b hb).trans (h.low b hb), Nat.le_trans h.size k.size, fun b hb hm => by
    have h1 := h.keep b hb hm
    have h2 := k.keep b (Nat.lt_of_lt_of_le hb h.size) h1.2
    exact ⟨h2.1.trans h1.1, h2.2⟩, fun i p hp => k.pre i p (h.pre i p hp), k.os.trans h.os, k.tape.trans h.tape, k.output.trans h.output⟩

theorem Ext.pure {B : Nat → Prop} {w w' : World} {mu mu' : Nat → Prop} {π π' : List (Option PB)} (h : Ext B w w' mu mu' π π') : Ext B w w' mu mu' [] [] :=
  ⟨h.low, h.size, h.keep, fun i p hp => by simp at hp, h.os, h.tape, h.output⟩

theorem cell_of_heap {w w' : World} {b o : Nat} (h : w'.heap[b]? = w.heap[b]?) : w'.cell? ⟨b, o, none⟩ = w.cell? ⟨b, o, none⟩ := World.cell?_of_block (w := w) h

mutual
theorem Rv.ext {B : Nat → Prop} {w w' : World} {mu mu' : Nat → Prop} {π π' : List (Option PB)} (h : Ext B w w' mu mu' π π') : (A : AV) → (v : Value) → Rv w mu π A v → Rv w' mu' π' A v
  | .unk, _, _ => trivial
  | .at x, v, hv => hv
  | .sl nl [] len, v, hv => by
    rcases hv with hv | ⟨b, o, cap, h1, h2, h3, h4⟩ | hv
    · exact .inl hv
    · exact .inr (.inl ⟨b, o, cap, h1, h2, fun hc => (hc rfl).elim, trivial⟩)
    · exact .inr (.inr hv)
  | .sl nl (c :: cs) len, v, hv => by
    rcases hv with hv | ⟨b, o, cap, h1, h2, h3, h4⟩ | ⟨_, hv, _⟩
    rotate_left 2
    · cases hv
    · exact .inl hv
    · have hlt : b < w.heap.size := by obtain ⟨⟨u, hu, _⟩, _⟩ := h4; exact World.block_lt_of_cell? _ ⟨b, o, none⟩ hu
      have hk := h.keep b hlt (h3 (by simp))
      exact .inr (.inl ⟨b, o, cap, h1, h2, fun _ => hk.2, RvC.ext h.pure (c :: cs) b o hk.1 h4⟩)
  | .pp [] off, v, hv => by
    obtain ⟨b, o, h1, h2, h3⟩ := hv
    exact ⟨b, o, h1, fun hc => (hc rfl).elim, trivial⟩
  | .pp (c :: cs) off, v, hv => by
    obtain ⟨b, o, h1, h2, h3⟩ := hv
    have hlt : b < w.heap.size := by obtain ⟨⟨u, hu, _⟩, _⟩ := h3; exact World.block_lt_of_cell? _ ⟨b, o, none⟩ hu
    have hk := h.keep b hlt (h2 (by simp))
    exact ⟨b, o, h1, fun _ => hk.2, RvC.ext h.pure (c :: cs) b o hk.1 h3⟩
  | .hs i off len es, v, hv => by
    rcases hv with hv | ⟨p, a, cap, h1, h2⟩
    · exact .inl hv
    · exact .inr ⟨p, a, cap, h.pre _ _ h1, h2⟩
  | .hp i off, v, hv => by
    obtain ⟨p, h1, h2⟩ := hv
    exact ⟨p, h.pre _ _ h1, h2⟩
  | .mp i, v, hv => by
    obtain ⟨p, h1, h2⟩ := hv
    exact ⟨p, h.pre _ _ h1, h2⟩
  | .agg cs, v, hv => by
    obtain ⟨vs, h1, h2⟩ := hv
    exact ⟨vs, h1, RvL.ext h cs _ h2⟩
  | .tup cs, v, hv => by
    obtain ⟨vs, h1, h2⟩ := hv
    exact ⟨vs, h1, RvL.ext h cs _ h2⟩
  | .fn f fs cs, v, hv => by
    obtain ⟨a, c, h1, h2, h3⟩ := hv
    exact ⟨a, c, h1, RvL.ext h fs _ h2, RvL.ext h cs _ h3⟩
theorem RvC.ext {B : Nat → Prop} {w w' : World} {mu mu' : Nat → Prop} {π π' : List (Option PB)} (h : Ext B w w' mu mu' π π') : (cs : List AV) → (b o : Nat) → w'.heap[b]? = w.heap[b]? → RvC w mu π cs b o → RvC w' mu' π' cs b o
  | [], _, _, _, _ => trivial
  | c :: cs, b, o, hb, hc => by
    obtain ⟨⟨v, h1, h2, h3⟩, h4⟩ := hc
    exact ⟨⟨v, by rw [cell_of_heap hb]; exact h1, h2, Rv.ext h c v h3⟩, RvC.ext h cs b (o + 1) hb h4⟩
theorem RvL.ext {B : Nat → Prop} {w w' : World} {mu mu' : Nat → Prop} {π π' : List (Option PB)} (h : Ext B w w' mu mu' π π') : (cs : List AV) → (vs : List Value) → RvL w mu π cs vs → RvL w' mu' π' cs vs
  | [], _, hv => hv
  | c :: cs, vs, hv => by
    obtain ⟨v, vs', h1, h2, h3⟩ := hv
    exact ⟨v, vs', h1, Rv.ext h c v h2, RvL.ext h cs vs' h3⟩
end

/-- One mutable place, or a place that is written from outside. -/
def muOf (out : Nat → Prop) (π : List (Option PB)) (H : List Blk) (b : Nat) : Prop :=
  out b ∨ ∃ (i : Nat) (x : Blk) (p : PB), H[i]? = some x ∧ x.isMut = true ∧ π[i]? = some (some p) ∧ p.blk = b

def RvM (w : World) (mu : Nat → Prop) (π : List (Option PB)) : List (Value × AV) → List MapEntry → Prop
  | [], l => l = []
  | (k, A) :: es, l => ∃ e l', l = e :: l' ∧ e.key = k ∧ Rv w mu π A e.val ∧ RvM w mu π es l'

theorem RvM.ext {B : Nat → Prop} {w w' : World} {mu mu' : Nat → Prop} {π π' : List (Option PB)} (h : Ext B w w' mu mu' π π') : (es : List (Value × AV)) → (l : List MapEntry) → RvM w mu π es l → RvM w' mu' π' es l
  | [], _, hv => hv
  | (k, A) :: es, l, hv => by
    obtain ⟨e, l', h1, h2, h3, h4⟩ := hv
    exact ⟨e, l', h1, h2, Rv.ext h A _ h3, RvM.ext h es l' h4⟩

def BlkOk (w : World) (mu : Nat → Prop) (π : List (Option PB)) (p : PB) : Blk → Prop
  | .dead => True
  | .own cs => (∃ c e, w.heap[p.blk]? = some (.cells c e (0, 0)) ∧ c.size = p.size) ∧ RvC w mu π cs p.blk p.off
  | .fix cs => RvC w mu π cs p.blk p.off
  | .map es => ∃ a c, w.heap[p.blk]? = some (.map a c) ∧ RvM w mu π es a.toList

theorem BlkOk.ext {B : Nat → Prop} {w w' : World} {mu mu' : Nat → Prop} {π π' : List (Option PB)} (h : Ext B w w' mu mu' π π') {p : PB} {x : Blk} (hb : x.isLive = true → w'.heap[p.blk]? = w.heap[p.blk]?)
    (hx : BlkOk w mu π p x) : BlkOk w' mu' π' p x := by
  cases x with
  | dead => trivial
  | own cs => obtain ⟨⟨c, e, h1, h2⟩, h3⟩ := hx; exact ⟨⟨c, e, by rw [hb rfl]; exact h1, h2⟩, RvC.ext h cs _ _ (hb rfl) h3⟩
  | fix cs => exact RvC.ext h cs _ _ (hb rfl) hx
  | map es => obtain ⟨a, c, h1, h2⟩ := hx; exact ⟨a, c, by rw [hb rfl]; exact h1, RvM.ext h es _ h2⟩

structure Inv (out : Nat → Prop) (B : Nat → Prop) (w : World) (π : List (Option PB)) (H : List Blk) : Prop where
  len : π.length = H.length
  bound : ∀ b, B b → b < w.heap.size
  out_lt : ∀ b, out b → B b
  base : ∀ (i : Nat) (x : Blk) (p : PB), H[i]? = some x → π[i]? = some (some p) → x.isLive = true → ¬ B p.blk ∧ p.blk < w.heap.size
  ok : ∀ (i : Nat) (x : Blk) (p : PB), H[i]? = some x → π[i]? = some (some p) → BlkOk w (muOf out π H) π p x
  sep : ∀ (i j : Nat) (x y : Blk) (p q : PB), i ≠ j → H[i]? = some x → H[j]? = some y → π[i]? = some (some p) → π[j]? = some (some q) → x.isMut = true → y.isLive = true → p.blk ≠ q.blk

theorem Blk.live_of_mut {x : Blk} (h : x.isMut = true) : x.isLive = true := by cases x <;> simp_all [Blk.isMut, Blk.isLive]

theorem getElem?_lt {α : Type} {l : List α} {i : Nat} {x : α} (h : l[i]? = some x) : i < l.length := (List.getElem?_eq_some_iff.1 h).1

/-- A list with one place set, or one place more. -/
def upd {α : Type} (l : List α) (i : Nat) (x : α) : List α := if i < l.length then l.set i x else l ++ [x]
theorem upd_get {α : Type} {l : List α} {i j : Nat} {x : α} (hi : i ≤ l.length) : (upd l i x)[j]? = if j = i then some x else l[j]? := by
  unfold upd
  split
  · rw [List.getElem?_set]
    by_cases hj : j = i
    · subst hj; simp [*]
    · rw [if_neg (fun e => hj e.symm), if_neg hj]
  · obtain rfl : i = l.length := by omega
    by_cases hj : j = l.length
    · subst hj; simp
    · rw [if_neg hj]
      by_cases hlt : j < l.length
      · rw [List.getElem?_append_left hlt]
      · rw [List.getElem?_eq_none (by simp; omega), List.getElem?_eq_none (by omega)]
theorem upd_some {α : Type} {l : List α} {i j : Nat} {x y : α} (hi : i ≤ l.length) (h : (upd l i x)[j]? = some y) : (j = i ∧ y = x) ∨ (j ≠ i ∧ l[j]? = some y) := by
  rw [upd_get hi] at h
  split at h
  · rename_i e; cases h; exact .inl ⟨e, rfl⟩
  · rename_i e; exact .inr ⟨e, h⟩
theorem upd_length {α : Type} {l : List α} {i : Nat} {x : α} (hi : i ≤ l.length) : (upd l i x).length = if i = l.length then l.length + 1 else l.length := by
  unfold upd
  split
  · rw [List.length_set, if_neg (by omega)]
  · rw [if_pos (by omega)]; simp

/-- A new block of the call's own: a place that was kept free for it, or a further one. -/
theorem ext_alloc {out : Nat → Prop} {B : Nat → Prop} {w : World} {π : List (Option PB)} {H : List Blk} (hI : Inv out B w π H) (o : Obj) (x : Blk) (p : PB) (hp : p.blk = w.heap.size) {n : Nat} (hn : n ≤ H.length) (hf : ∀ q, π[n]? ≠ some (some q)) :
    Ext B w (w.alloc o) (muOf out π H) (muOf out (upd π n (some p)) (upd H n x)) π (upd π n (some p)) := by
  have hl := hI.len
  refine ⟨fun b hb => ?_, by simp, fun b hb hm => ⟨?_, ?_⟩, ?_, rfl, rfl, rfl⟩
  · have := hI.bound b hb; simp only [World.alloc, Array.getElem?_push]; rw [if_neg (by omega)]
  · simp only [World.alloc, Array.getElem?_push]; rw [if_neg (by omega)]
  · rintro (ho | ⟨i, y, q, h1, h2, h3, h4⟩)
    · exact hm (.inl ho)
    · rcases upd_some hn h1 with ⟨rfl, rfl⟩ | ⟨hi, h1'⟩
      · rcases upd_some (by omega) h3 with ⟨_, e⟩ | ⟨hi', _⟩
        · cases e; omega
        · exact hi' rfl
      · rcases upd_some (by omega) h3 with ⟨e, _⟩ | ⟨_, h3'⟩
        · exact hi e
        · exact hm (.inr ⟨i, y, q, h1', h2, h3', h4⟩)
  · intro i q h
    rw [upd_get (by omega), if_neg]
    · exact h
    · rintro rfl; exact hf q h

theorem Inv.alloc {out : Nat → Prop} {B : Nat → Prop} {w : World} {π : List (Option PB)} {H : List Blk} (hI : Inv out B w π H) (o : Obj) (x : Blk) (p : PB) (hp : p.blk = w.heap.size) {n : Nat} (hn : n ≤ H.length) (hf : ∀ q, π[n]? ≠ some (some q))
    (hx : BlkOk (w.alloc o) (muOf out (upd π n (some p)) (upd H n x)) (upd π n (some p)) p x) : Inv out B (w.alloc o) (upd π n (some p)) (upd H n x) := by
  have hE := ext_alloc hI o x p hp hn hf
  have hl := hI.len
  have split : ∀ {j : Nat} {z : Blk} {q : PB}, (upd H n x)[j]? = some z → (upd π n (some p))[j]? = some (some q) → (j = n ∧ z = x ∧ q = p) ∨ (j ≠ n ∧ H[j]? = some z ∧ π[j]? = some (some q)) := by
    intro j z q g1 g2
    rcases upd_some hn g1 with ⟨rfl, rfl⟩ | ⟨hj, g1'⟩
    · rcases upd_some (by omega) g2 with ⟨_, e⟩ | ⟨hj', _⟩
      · cases e; exact .inl ⟨rfl, rfl, rfl⟩
      · exact (hj' rfl).elim
    · rcases upd_some (by omega) g2 with ⟨e, _⟩ | ⟨_, g2'⟩
      · exact (hj e).elim
      · exact .inr ⟨hj, g1', g2'⟩
  refine ⟨by rw [upd_length (by omega), upd_length hn, hl], fun b hb => by have := hI.bound b hb; simp; omega, hI.out_lt, ?_, ?_, ?_⟩
  · intro i y q h1 h2 h3
    rcases split h1 h2 with ⟨rfl, rfl, rfl⟩ | ⟨_, h1', h2'⟩
    · exact ⟨fun hb => by have := hI.bound _ hb; omega, by simp [hp]⟩
    · have := hI.base i y q h1' h2' h3; exact ⟨this.1, by simp; omega⟩
  · intro i y q h1 h2
    rcases split h1 h2 with ⟨rfl, rfl, rfl⟩ | ⟨_, h1', h2'⟩
    · exact hx
    · refine BlkOk.ext hE (fun hlv => ?_) (hI.ok i y q h1' h2')
      have := hI.base i y q h1' h2' hlv
      simp only [World.alloc, Array.getElem?_push]; rw [if_neg (by omega)]
  · intro i j y z q r hij h1 h2 h3 h4 h5 h6
    rcases split h1 h3 with ⟨rfl, rfl, rfl⟩ | ⟨_, h1', h3'⟩
    · rcases split h2 h4 with ⟨e, _, _⟩ | ⟨_, h2', h4'⟩
      · exact (hij e.symm).elim
      · have := hI.base j z r h2' h4' h6; omega
    · rcases split h2 h4 with ⟨rfl, rfl, rfl⟩ | ⟨_, h2', h4'⟩
      · have := hI.base i y q h1' h3' (Blk.live_of_mut h5); omega
      · exact hI.sep i j y z q r hij h1' h2' h3' h4' h5 h6

/-- Cells that hold a list of values. -/
theorem RvC_of_list {w : World} {mu : Nat → Prop} {π : List (Option PB)} : ∀ (cs : List AV) (vs : List Value) (b o : Nat), RvL w mu π cs vs → (∀ v ∈ vs, v.oneCell' = true) →
    (∀ j v, vs[j]? = some v → w.cell? ⟨b, o + j, none⟩ = some v) → RvC w mu π cs b o
  | [], _, _, _, _, _, _ => trivial
  | c :: cs, vs, b, o, hv, h1, hc => by
    obtain ⟨v, vs', rfl, h2, h3⟩ := hv
    refine ⟨⟨v, by simpa using hc 0 v rfl, h1 v (by simp), h2⟩, RvC_of_list cs vs' b (o + 1) h3 (fun u hu => h1 u (by simp [hu])) fun j u hj => ?_⟩
    have := hc (j + 1) u (by simpa using hj)
    rwa [show o + 1 + j = o + (j + 1) by omega]

theorem RvC.list {w : World} {mu : Nat → Prop} {π : List (Option PB)} : ∀ (cs : List AV) (b o : Nat), RvC w mu π cs b o → ∃ vs : List Value, vs.length = cs.length ∧ RvL w mu π cs vs ∧ (∀ v ∈ vs, v.oneCell' = true) ∧
    (∀ j v, vs[j]? = some v → w.cell? ⟨b, o + j, none⟩ = some v)
  | [], _, _, _ => ⟨[], rfl, rfl, by simp, by simp⟩
  | c :: cs, b, o, h => by
    obtain ⟨⟨v, h1, h2, h3⟩, h4⟩ := h
    obtain ⟨vs, h5, h6, h7, h8⟩ := RvC.list cs b (o + 1) h4
    refine ⟨v :: vs, by simp [h5], ⟨v, vs, rfl, h3, h6⟩, fun u hu => ?_, fun j u hj => ?_⟩
    · rcases List.mem_cons.1 hu with rfl | hu
      · exact h2
      · exact h7 u hu
    · cases j with
      | zero => simp at hj; subst hj; exact h1
      | succ j =>
        have := h8 j u (by simpa using hj)
        rwa [show o + 1 + j = o + (j + 1) by omega] at this

theorem RvL.length {w : World} {mu : Nat → Prop} {π : List (Option PB)} : ∀ (cs : List AV) (vs : List Value), RvL w mu π cs vs → vs.length = cs.length
  | [], _, h => by cases h; rfl
  | c :: cs, _, h => by obtain ⟨v, vs', rfl, _, h2⟩ := h; simp [RvL.length cs vs' h2]
theorem RvL.get {w : World} {mu : Nat → Prop} {π : List (Option PB)} : ∀ (cs : List AV) (vs : List Value) (i : Nat) (c : AV), RvL w mu π cs vs → cs[i]? = some c → ∃ v, vs[i]? = some v ∧ Rv w mu π c v
  | [], _, i, c, h, hc => by simp at hc
  | c :: cs, _, i, c', h, hc => by
    obtain ⟨v, vs', rfl, h1, h2⟩ := h
    cases i with
    | zero => simp at hc; subst hc; exact ⟨v, rfl, h1⟩
    | succ i => simpa using RvL.get cs vs' i c' h2 (by simpa using hc)
theorem RvL.append {w : World} {mu : Nat → Prop} {π : List (Option PB)} : ∀ (cs ds : List AV) (vs us : List Value), RvL w mu π cs vs → RvL w mu π ds us → RvL w mu π (cs ++ ds) (vs ++ us)
  | [], _, _, _, h, k => by cases h; exact k
  | c :: cs, ds, _, us, h, k => by obtain ⟨v, vs', rfl, h1, h2⟩ := h; exact ⟨v, vs' ++ us, rfl, h1, RvL.append cs ds vs' us h2 k⟩
theorem RvL.take {w : World} {mu : Nat → Prop} {π : List (Option PB)} : ∀ (n : Nat) (cs : List AV) (vs : List Value), RvL w mu π cs vs → RvL w mu π (cs.take n) (vs.take n)
  | 0, _, _, _ => by simp [RvL]
  | n + 1, [], _, h => by cases h; simp [RvL]
  | n + 1, c :: cs, _, h => by obtain ⟨v, vs', rfl, h1, h2⟩ := h; exact ⟨v, vs'.take n, rfl, h1, RvL.take n cs vs' h2⟩
theorem RvL.drop {w : World} {mu : Nat → Prop} {π : List (Option PB)} : ∀ (n : Nat) (cs : List AV) (vs : List Value), RvL w mu π cs vs → RvL w mu π (cs.drop n) (vs.drop n)
  | 0, _, _, h => h
  | n + 1, [], _, h => by cases h; simp [RvL]
  | n + 1, c :: cs, _, h => by obtain ⟨v, vs', rfl, h1, h2⟩ := h; exact RvL.drop n cs vs' h2
theorem RvL.set {w : World} {mu : Nat → Prop} {π : List (Option PB)} : ∀ (cs : List AV) (vs : List Value) (i : Nat) (A : AV) (v : Value), RvL w mu π cs vs → Rv w mu π A v → RvL w mu π (cs.set i A) (vs.set i v)
  | [], _, i, A, v, h, k => by cases h; simp [RvL]
  | c :: cs, _, i, A, v, h, k => by
    obtain ⟨u, vs', rfl, h1, h2⟩ := h
    cases i with
    | zero => exact ⟨v, vs', rfl, k, h2⟩
    | succ i => exact ⟨u, vs'.set i v, rfl, h1, RvL.set cs vs' i A v h2 k⟩
theorem RvL.of_forall {w : World} {mu : Nat → Prop} {π : List (Option PB)} : ∀ (cs : List AV) (vs : List Value), vs.length = cs.length → (∀ (i : Nat) (c : AV) (v : Value), cs[i]? = some c → vs[i]? = some v → Rv w mu π c v) → RvL w mu π cs vs
  | [], vs, h, _ => by simpa [RvL] using h
  | c :: cs, [], h, _ => by simp at h
  | c :: cs, v :: vs, h, k => ⟨v, vs, rfl, k 0 c v rfl rfl, RvL.of_forall cs vs (by simpa using h) fun i c v h1 h2 => k (i + 1) c v (by simpa using h1) (by simpa using h2)⟩

theorem RvC.get {w : World} {mu : Nat → Prop} {π : List (Option PB)} : ∀ (cs : List AV) (b o i : Nat) (c : AV), RvC w mu π cs b o → cs[i]? = some c → ∃ v, w.cell? ⟨b, o + i, none⟩ = some v ∧ v.oneCell' = true ∧ Rv w mu π c v
  | [], _, _, i, c, _, hc => by simp at hc
  | c :: cs, b, o, i, c', h, hc => by
    obtain ⟨⟨v, h1, h2, h3⟩, h4⟩ := h
    cases i with
    | zero => simp at hc; subst hc; exact ⟨v, h1, h2, h3⟩
    | succ i =>
      have := RvC.get cs b (o + 1) i c' h4 (by simpa using hc)
      rwa [show o + 1 + i = o + (i + 1) by omega] at this
theorem RvC.drop {w : World} {mu : Nat → Prop} {π : List (Option PB)} : ∀ (n : Nat) (cs : List AV) (b o : Nat), RvC w mu π cs b o → RvC w mu π (cs.drop n) b (o + n)
  | 0, _, _, _, h => h
  | n + 1, [], _, _, _ => by simp [RvC]
  | n + 1, c :: cs, b, o, h => by
    have := RvC.drop n cs b (o + 1) h.2
    rwa [show o + 1 + n = o + (n + 1) by omega] at this
theorem RvC.take {w : World} {mu : Nat → Prop} {π : List (Option PB)} : ∀ (n : Nat) (cs : List AV) (b o : Nat), RvC w mu π cs b o → RvC w mu π (cs.take n) b o
  | 0, _, _, _, _ => by simp [RvC]
  | n + 1, [], _, _, _ => by simp [RvC]
  | n + 1, c :: cs, b, o, h => ⟨h.1, RvC.take n cs b (o + 1) h.2⟩
theorem RvC.bound {w : World} {mu : Nat → Prop} {π : List (Option PB)} {cs : List AV} {b o : Nat} {c : Array Value} {e : TypeId} {f : Nat × Nat} (h : RvC w mu π cs b o) (hb : w.heap[b]? = some (.cells c e f)) (hne : cs ≠ []) :
    o + cs.length ≤ c.size := by
  have hl : cs.length - 1 < cs.length := by have := List.length_pos_iff.2 hne; omega
  obtain ⟨v, h1, _⟩ := RvC.get cs b o (cs.length - 1) cs[cs.length - 1] h (List.getElem?_eq_getElem hl)
  simp only [World.cell?, hb] at h1
  have := (Array.getElem?_eq_some_iff.1 (by simpa using h1)).1
  omega

theorem set_get {α : Type} {l : List α} {i j : Nat} {y x : α} (h : (l.set i y)[j]? = some x) : (i = j ∧ x = y) ∨ (i ≠ j ∧ l[j]? = some x) := by
  rw [List.getElem?_set] at h
  split at h
  · rename_i hij
    subst hij
    split at h
    · cases h; exact .inl ⟨rfl, rfl⟩
    · cases h
  · rename_i hij; exact .inr ⟨hij, h⟩

/-- A step that turns one mutable block, in memory at its own place alone. -/
theorem Inv.setBlk {out : Nat → Prop} {B : Nat → Prop} {w w' : World} {π : List (Option PB)} {H : List Blk} (hI : Inv out B w π H) {i : Nat} {x : Blk} {p : PB} (h1 : H[i]? = some x) (hp : π[i]? = some (some p)) (hm : x.isMut = true) (y : Blk)
    (hs : w'.heap.size = w.heap.size) (hh : ∀ b, b ≠ p.blk → w'.heap[b]? = w.heap[b]?) (ho : w'.os = w.os) (ht : w'.tape = w.tape) (hu : w'.output = w.output)
    (hy : Ext B w w' (muOf out π H) (muOf out π (H.set i y)) π π → BlkOk w' (muOf out π (H.set i y)) π p y) :
    Ext B w w' (muOf out π H) (muOf out π (H.set i y)) π π ∧ Inv out B w' π (H.set i y) := by
  have hE : Ext B w w' (muOf out π H) (muOf out π (H.set i y)) π π := by
    refine ⟨fun b hb => hh b (by rintro rfl; exact (hI.base i x p h1 hp (Blk.live_of_mut hm)).1 hb), by omega, fun b hb hn => ?_, fun _ _ h => h, ho, ht, hu⟩
    have hne : b ≠ p.blk := fun e => hn (.inr ⟨i, x, p, h1, hm, hp, e.symm⟩)
    refine ⟨hh b hne, ?_⟩
    rintro (hb' | ⟨j, z, q, g1, g2, g3, g4⟩)
    · exact hn (.inl hb')
    · rcases set_get g1 with ⟨rfl, rfl⟩ | ⟨_, g1'⟩
      · rw [hp] at g3; cases g3; exact hne g4.symm
      · exact hn (.inr ⟨j, z, q, g1', g2, g3, g4⟩)
  refine ⟨hE, by simp [hI.len], fun b hb => by have := hI.bound b hb; omega, hI.out_lt, ?_, ?_, ?_⟩
  · intro j z q g1 g2 g3
    rcases set_get g1 with ⟨rfl, rfl⟩ | ⟨_, g1'⟩
    · have := hI.base i x q h1 g2 (Blk.live_of_mut hm); exact ⟨this.1, by omega⟩
    · have := hI.base j z q g1' g2 g3; exact ⟨this.1, by omega⟩
  · intro j z q g1 g2
    rcases set_get g1 with ⟨rfl, rfl⟩ | ⟨hij, g1'⟩
    · rw [hp] at g2; cases g2; exact hy hE
    · exact BlkOk.ext hE (fun hl => hh _ (fun e => hI.sep i j x z p q hij h1 g1' hp g2 hm hl e.symm)) (hI.ok j z q g1' g2)
  · intro j k z t q r hjk g1 g2 g3 g4 g5 g6
    rcases set_get g1 with ⟨rfl, rfl⟩ | ⟨hij, g1'⟩
    · rcases set_get g2 with ⟨rfl, _⟩ | ⟨_, g2'⟩
      · exact (hjk rfl).elim
      · exact hI.sep i k x t q r hjk h1 g2' g3 g4 hm g6
    · rcases set_get g2 with ⟨rfl, rfl⟩ | ⟨_, g2'⟩
      · exact hI.sep j i z x q r hjk g1' h1 g3 g4 g5 (Blk.live_of_mut hm)
      · exact hI.sep j k z t q r hjk g1' g2' g3 g4 g5 g6

/-- A block given up. -/
theorem Inv.kill {out : Nat → Prop} {B : Nat → Prop} {w w' : World} {π : List (Option PB)} {H : List Blk} (hI : Inv out B w π H) (i : Nat) (hh : w'.heap = w.heap) (ho : w'.os = w.os) (ht : w'.tape = w.tape) (hu : w'.output = w.output) :
    Ext B w w' (muOf out π H) (muOf out π (H.set i .dead)) π π ∧ Inv out B w' π (H.set i .dead) := by
  have hE : Ext B w w' (muOf out π H) (muOf out π (H.set i .dead)) π π := by
    refine ⟨fun b _ => by rw [hh], by rw [hh]; exact Nat.le_refl _, fun b _ hn => ⟨by rw [hh], ?_⟩, fun _ _ h => h, ho, ht, hu⟩
    rintro (hb' | ⟨j, z, q, g1, g2, g3, g4⟩)
    · exact hn (.inl hb')
    · rcases set_get g1 with ⟨rfl, rfl⟩ | ⟨_, g1'⟩
      · simp [Blk.isMut] at g2
      · exact hn (.inr ⟨j, z, q, g1', g2, g3, g4⟩)
  refine ⟨hE, by simp [hI.len], by rw [hh]; exact hI.bound, hI.out_lt, ?_, ?_, ?_⟩
  · intro j z q g1 g2 g3
    rcases set_get g1 with ⟨rfl, rfl⟩ | ⟨_, g1'⟩
    · simp [Blk.isLive] at g3
    · rw [hh]; exact hI.base j z q g1' g2 g3
  · intro j z q g1 g2
    rcases set_get g1 with ⟨rfl, rfl⟩ | ⟨_, g1'⟩
    · trivial
    · exact BlkOk.ext hE (fun _ => by rw [hh]) (hI.ok j z q g1' g2)
  · intro j k z t q r hjk g1 g2 g3 g4 g5 g6
    rcases set_get g1 with ⟨rfl, rfl⟩ | ⟨_, g1'⟩
    · simp [Blk.isMut] at g5
    · rcases set_get g2 with ⟨rfl, rfl⟩ | ⟨_, g2'⟩
      · simp [Blk.isLive] at g6
      · exact hI.sep j k z t q r hjk g1' g2' g3 g4 g5 g6

/-- A block without a place. -/
theorem Inv.addFree {out : Nat → Prop} {B : Nat → Prop} {w : World} {π : List (Option PB)} {H : List Blk} (hI : Inv out B w π H) {n : Nat} (hn : n ≤ H.length) (hf : ∀ q, π[n]? ≠ some (some q)) (y : Blk) :
    Ext B w w (muOf out π H) (muOf out (upd π n none) (upd H n y)) π (upd π n none) ∧ Inv out B w (upd π n none) (upd H n y) := by
  have hl := hI.len
  have split : ∀ {j : Nat} {z : Blk} {q : PB}, (upd H n y)[j]? = some z → (upd π n none)[j]? = some (some q) → H[j]? = some z ∧ π[j]? = some (some q) := by
    intro j z q g1 g2
    rcases upd_some hn g1 with ⟨rfl, rfl⟩ | ⟨hj, g1'⟩
    · rcases upd_some (by omega) g2 with ⟨_, e⟩ | ⟨hj', _⟩
      · cases e
      · exact (hj' rfl).elim
    · rcases upd_some (by omega) g2 with ⟨e, _⟩ | ⟨_, g2'⟩
      · exact (hj e).elim
      · exact ⟨g1', g2'⟩
  have hmu : ∀ b, muOf out (upd π n none) (upd H n y) b → muOf out π H b := by
    rintro b (hb' | ⟨j, z, q, g1, g2, g3, g4⟩)
    · exact .inl hb'
    · obtain ⟨f1, f2⟩ := split g1 g3
      exact .inr ⟨j, z, q, f1, g2, f2, g4⟩
  have hE : Ext B w w (muOf out π H) (muOf out (upd π n none) (upd H n y)) π (upd π n none) := ⟨fun _ _ => rfl, Nat.le_refl _, fun b _ hb => ⟨rfl, fun hb' => hb (hmu b hb')⟩, fun j q h => by
    rw [upd_get (by omega), if_neg]
    · exact h
    · rintro rfl; exact hf q h, rfl, rfl, rfl⟩
  refine ⟨hE, by rw [upd_length (by omega), upd_length hn, hl], hI.bound, hI.out_lt, ?_, ?_, ?_⟩
  · intro j z q g1 g2 g3
    obtain ⟨f1, f2⟩ := split g1 g2
    exact hI.base j z q f1 f2 g3
  · intro j z q g1 g2
    obtain ⟨f1, f2⟩ := split g1 g2
    exact BlkOk.ext hE (fun _ => rfl) (hI.ok j z q f1 f2)
  · intro j k z t q r hjk g1 g2 g3 g4 g5 g6
    obtain ⟨f1, f3⟩ := split g1 g3
    obtain ⟨f2, f4⟩ := split g2 g4
    exact hI.sep j k z t q r hjk f1 f2 f3 f4 g5 g6

/-- A step that gives up one mutable block, and takes its place under a new number. -/
theorem Inv.grow {out : Nat → Prop} {B : Nat → Prop} {w w' : World} {π : List (Option PB)} {H : List Blk} (hI : Inv out B w π H) {i : Nat} {x : Blk} {p : PB} (h1 : H[i]? = some x) (hp : π[i]? = some (some p)) (hm : x.isMut = true) (y : Blk) (p' : PB) (hp' : p'.blk = p.blk)
    {n : Nat} (hn : n ≤ H.length) (hf : ∀ q, π[n]? ≠ some (some q))
    (hs : w'.heap.size = w.heap.size) (hh : ∀ b, b ≠ p.blk → w'.heap[b]? = w.heap[b]?) (ho : w'.os = w.os) (ht : w'.tape = w.tape) (hu : w'.output = w.output)
    (hy : Ext B w w' (muOf out π H) (muOf out (upd π n (some p')) (upd (H.set i .dead) n y)) π (upd π n (some p')) → BlkOk w' (muOf out (upd π n (some p')) (upd (H.set i .dead) n y)) (upd π n (some p')) p' y) :
    Ext B w w' (muOf out π H) (muOf out (upd π n (some p')) (upd (H.set i .dead) n y)) π (upd π n (some p')) ∧ Inv out B w' (upd π n (some p')) (upd (H.set i .dead) n y) := by
  have hl := hI.len
  have hn' : n ≤ (H.set i .dead).length := by simpa using hn
  have split : ∀ {j : Nat} {z : Blk} {q : PB}, (upd (H.set i .dead) n y)[j]? = some z → (upd π n (some p'))[j]? = some (some q) → z.isLive = true → (j = n ∧ z = y ∧ q = p') ∨ (i ≠ j ∧ j ≠ n ∧ H[j]? = some z ∧ π[j]? = some (some q)) := by
    intro j z q g1 g2 g3
    rcases upd_some hn' g1 with ⟨rfl, rfl⟩ | ⟨hj, g1'⟩
    · rcases upd_some (by omega) g2 with ⟨_, e⟩ | ⟨hj', _⟩
      · cases e; exact .inl ⟨rfl, rfl, rfl⟩
      · exact (hj' rfl).elim
    · rcases upd_some (by omega) g2 with ⟨e, _⟩ | ⟨_, g2'⟩
      · exact (hj e).elim
      · rcases set_get g1' with ⟨rfl, rfl⟩ | ⟨hij, g1''⟩
        · simp [Blk.isLive] at g3
        · exact .inr ⟨hij, hj, g1'', g2'⟩
  have hE : Ext B w w' (muOf out π H) (muOf out (upd π n (some p')) (upd (H.set i .dead) n y)) π (upd π n (some p')) := by
    refine ⟨fun b hb => hh b (by rintro rfl; exact (hI.base i x p h1 hp (Blk.live_of_mut hm)).1 hb), by omega, fun b hb hn0 => ?_, fun j q h => ?_, ho, ht, hu⟩
    · have hne : b ≠ p.blk := fun e => hn0 (.inr ⟨i, x, p, h1, hm, hp, e.symm⟩)
      refine ⟨hh b hne, ?_⟩
      rintro (hb' | ⟨j, z, q, g1, g2, g3, g4⟩)
      · exact hn0 (.inl hb')
      · rcases split g1 g3 (Blk.live_of_mut g2) with ⟨_, _, rfl⟩ | ⟨_, _, g1', g3'⟩
        · exact hne (by rw [← g4, hp'])
        · exact hn0 (.inr ⟨j, z, q, g1', g2, g3', g4⟩)
    · rw [upd_get (by omega), if_neg]
      · exact h
      · rintro rfl; exact hf q h
  refine ⟨hE, by rw [upd_length (by omega), upd_length hn', List.length_set, hl], fun b hb => by have := hI.bound b hb; omega, hI.out_lt, ?_, ?_, ?_⟩
  · intro j z q g1 g2 g3
    rcases split g1 g2 g3 with ⟨_, _, rfl⟩ | ⟨_, _, g1', g2'⟩
    · have := hI.base i x p h1 hp (Blk.live_of_mut hm); rw [hp']; exact ⟨this.1, by omega⟩
    · have := hI.base j z q g1' g2' g3; exact ⟨this.1, by omega⟩
  · intro j z q g1 g2
    cases hz : z.isLive with
    | false => cases z <;> simp_all [Blk.isLive, BlkOk]
    | true =>
      rcases split g1 g2 hz with ⟨_, rfl, rfl⟩ | ⟨hij, _, g1', g2'⟩
      · exact hy hE
      · exact BlkOk.ext hE (fun hlv => hh _ (fun e => hI.sep i j x z p q hij h1 g1' hp g2' hm hlv e.symm)) (hI.ok j z q g1' g2')
  · intro j k z t q r hjk g1 g2 g3 g4 g5 g6
    rcases split g1 g3 (Blk.live_of_mut g5) with ⟨hj, rfl, rfl⟩ | ⟨hij, _, g1', g3'⟩
    · rcases split g2 g4 g6 with ⟨hk, _, _⟩ | ⟨hik, _, g2', g4'⟩
      · omega
      · rw [hp']; exact hI.sep i k x t p r hik h1 g2' hp g4' hm g6
    · rcases split g2 g4 g6 with ⟨hk, rfl, rfl⟩ | ⟨hik, _, g2', g4'⟩
      · rw [hp']; exact hI.sep j i z x q p (fun e => hij e.symm) g1' h1 g3' hp g5 (Blk.live_of_mut hm)
      · exact hI.sep j k z t q r hjk g1' g2' g3' g4' g5 g6

/-- What names no own block reads under any numbering. -/
theorem Rv.lift {w : World} {mu : Nat → Prop} {π : List (Option PB)} {A : AV} {v : Value} (h : Rv w mu [] A v) : Rv w mu π A v :=
  Rv.ext (B := fun _ => False) ⟨fun _ _ => rfl, Nat.le_refl _, fun _ _ h => ⟨rfl, h⟩, fun i p hp => by simp at hp, rfl, rfl, rfl⟩ A v h
theorem RvC.lift {w : World} {mu : Nat → Prop} {π : List (Option PB)} {cs : List AV} {b o : Nat} (h : RvC w mu [] cs b o) : RvC w mu π cs b o :=
  RvC.ext (B := fun _ => False) ⟨fun _ _ => rfl, Nat.le_refl _, fun _ _ h => ⟨rfl, h⟩, fun i p hp => by simp at hp, rfl, rfl, rfl⟩ cs b o rfl h
end Go.Eng
