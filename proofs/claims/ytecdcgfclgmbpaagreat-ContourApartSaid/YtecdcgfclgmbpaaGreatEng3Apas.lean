import Derived.Calls
import Derived.Below
import Derived.LoopN
import Derived.Orders
import Derived.Laws.Append
import Derived.Laws.AppendOwn
import Derived.Laws.MakeOwn
import Derived.Laws.CopyRow
import Derived.Laws.Cells
import Derived.Laws.Build
import Derived.Laws.StructEq
import Derived.Laws.Rows
import Derived.Laws.Bits64
import Derived.Laws.BitsLemmas
set_option linter.all false
namespace Go.Eng
open Go
class Dr where d : Bool
variable [Dr]
inductive AV where
 | unk
 | at (v : Value)
 | sl (nl : Bool) (cs : List AV) (len : Nat)
 | pp (cs : List AV) (off : Nat)
 | hs (b off len es : Nat)
 | hp (b off : Nat)
 | mp (b : Nat)
 | agg (cs : List AV)
 | tup (cs : List AV)
 | fn (f : FuncId) (fs cs : List AV)
 deriving Inhabited
structure PB where
 blk : Nat
 off : Nat
 size : Nat
inductive Blk where
 | dead
 | own (cs : List AV)
 | fix (cs : List AV)
 | map (es : List (Value × AV))
 | iter (m n : Nat) (seen : List Nat)
 deriving Inhabited
def Blk.hZ : Blk -> Bool | .own _ | .map _ | .iter .. => true | _ => false
def Blk.isLive : Blk -> Bool | .dead => false | _ => true
mutual
def Rv (w : World) (mu : Nat -> Prop) (π : List (Option PB)) : AV -> Value -> Prop
 | .unk, _ => True
 | .at x, v => v = x
 | .sl nl cs len, v => (nl = true /\ len = 0 /\ cs = [] /\ v = .slice none 0 0) \/
   (∃ b o cap, v = .slice (some ⟨b, o, none⟩) len cap /\ len <= cap /\ (cs ≠ [] -> ¬ mu b) /\ RvC w mu [] cs b o) \/ (len = 0 /\ cs = [] /\ ∃ a cap, v = .slice (some a) 0 cap)
 | .pp cs off, v => ∃ b o, v = .pointer (some ⟨b, o + off, none⟩) /\ (cs ≠ [] -> ¬ mu b) /\ RvC w mu [] cs b o
 | .hs i off len es, v => (len = 0 /\ v = .slice none 0 0) \/ ∃ p a cap, π[i]? = some (some p) /\ v = .slice (some a) len cap /\ len <= cap /\ a.spot = none /\
   (0 < cap -> a = ⟨p.blk, p.off + off, none⟩ /\ p.off + off + cap * es <= p.size)
 | .hp i off, v => ∃ p, π[i]? = some (some p) /\ v = .pointer (some ⟨p.blk, p.off + off, none⟩)
 | .mp i, v => ∃ p, π[i]? = some (some p) /\ v = .map (some p.blk)
 | .agg cs, v => ∃ vs, v = .agg vs /\ RvL w mu π cs vs.toList
 | .tup cs, v => ∃ vs, v = .tuple vs /\ RvL w mu π cs vs.toList
 | .fn f j cs, v => ∃ a c, v = .func (.func f) a c /\ RvL w mu π j a.toList /\ RvL w mu π cs c.toList
def RvC (w : World) (mu : Nat -> Prop) (π : List (Option PB)) : List AV -> Nat -> Nat -> Prop
 | [], _, _ => True
 | c :: cs, b, o => (∃ v, w.cell? ⟨b, o, none⟩ = some v /\ v.oneCell' = true /\ Rv w mu π c v) /\ RvC w mu π cs b (o + 1)
def RvL (w : World) (mu : Nat -> Prop) (π : List (Option PB)) : List AV -> List Value -> Prop
 | [], vs => vs = []
 | c :: cs, vs => ∃ v j, vs = v :: j /\ Rv w mu π c v /\ RvL w mu π cs j
end
def Lo (n : Nat) : Nat -> Prop := fun b => b < n
structure Ext (B : Nat -> Prop) (w w' : World) (mu mu' : Nat -> Prop) (π π' : List (Option PB)) : Prop where
 low : ∀ b, B b -> w'.heap[b]? = w.heap[b]?
 size : w.heap.size <= w'.heap.size
 keep : ∀ b, b < w.heap.size -> ¬ mu b -> w'.heap[b]? = w.heap[b]? /\ ¬ mu' b
 pre : ∀ (i : Nat) (p : PB), π[i]? = some (some p) -> π'[i]? = some (some p)
 os : w'.os = w.os
 tape : w'.tape = w.tape
 output : w'.output = w.output
 drawn : Dr.d = true -> w.drawn <= w'.drawn
theorem Ext.refl {B : Nat -> Prop} (w : World) (mu : Nat -> Prop) (π : List (Option PB)) : Ext B w w mu mu π π := ⟨fun _ _ => rfl, Nat.le_refl _, fun _ _ h => ⟨rfl, h⟩, fun _ _ h => h, rfl, rfl, rfl, fun _ => Nat.le_refl _⟩
theorem Ext.trans {B : Nat -> Prop} {w w' m : World} {mu mu' j : Nat -> Prop} {π π' π'' : List (Option PB)} (h : Ext B w w' mu mu' π π') (k : Ext B w' m mu' j π' π'') : Ext B w m mu j π π'' :=
 ⟨fun b hb => (k.low b hb).trans (h.low b hb), Nat.le_trans h.size k.size, fun b hb hm => by
  have h1 := h.keep b hb hm
  have h2 := k.keep b (Nat.lt_of_lt_of_le hb h.size) h1.2
  exact ⟨h2.1.trans h1.1, h2.2⟩, fun i p hp => k.pre i p (h.pre i p hp), k.os.trans h.os, k.tape.trans h.tape, k.output.trans h.output, fun e => Nat.le_trans (h.drawn e) (k.drawn e)⟩
theorem Ext.pure {B : Nat -> Prop} {w w' : World} {mu mu' : Nat -> Prop} {π π' : List (Option PB)} (h : Ext B w w' mu mu' π π') : Ext B w w' mu mu' [] [] :=
 ⟨h.low, h.size, h.keep, fun i p hp => by simp at hp, h.os, h.tape, h.output, h.drawn⟩
theorem yD {w w' : World} {b o : Nat} (h : w'.heap[b]? = w.heap[b]?) : w'.cell? ⟨b, o, none⟩ = w.cell? ⟨b, o, none⟩ := World.cell?_of_block (w := w) h
mutual
theorem Rv.ext {B : Nat -> Prop} {w w' : World} {mu mu' : Nat -> Prop} {π π' : List (Option PB)} (h : Ext B w w' mu mu' π π') : (A : AV) -> (v : Value) -> Rv w mu π A v -> Rv w' mu' π' A v
 | .unk, _, _ => trivial
 | .at x, v, j => j
 | .sl nl [] len, v, j => by
  rcases j with j | ⟨b, o, cap, h1, h2, m, C⟩ | j
  · exact .inl j
  · exact .inr (.inl ⟨b, o, cap, h1, h2, fun hc => (hc rfl).elim, trivial⟩)
  · exact .inr (.inr j)
 | .sl nl (c :: cs) len, v, j => by
  rcases j with j | ⟨b, o, cap, h1, h2, m, C⟩ | ⟨_, j, _⟩
  rotate_left 2
  · cases j
  · exact .inl j
  · have q : b < w.heap.size := by obtain ⟨⟨u, hu, _⟩, _⟩ := C; exact World.block_lt_of_cell? _ ⟨b, o, none⟩ hu
    have z := h.keep b q (m (by simp))
    exact .inr (.inl ⟨b, o, cap, h1, h2, fun _ => z.2, RvC.ext h.pure (c :: cs) b o z.1 C⟩)
 | .pp [] off, v, j => by
  obtain ⟨b, o, h1, h2, m⟩ := j
  exact ⟨b, o, h1, fun hc => (hc rfl).elim, trivial⟩
 | .pp (c :: cs) off, v, j => by
  obtain ⟨b, o, h1, h2, m⟩ := j
  have q : b < w.heap.size := by obtain ⟨⟨u, hu, _⟩, _⟩ := m; exact World.block_lt_of_cell? _ ⟨b, o, none⟩ hu
  have z := h.keep b q (h2 (by simp))
  exact ⟨b, o, h1, fun _ => z.2, RvC.ext h.pure (c :: cs) b o z.1 m⟩
 | .hs i off len es, v, j => by
  rcases j with j | ⟨p, a, cap, h1, h2⟩
  · exact .inl j
  · exact .inr ⟨p, a, cap, h.pre _ _ h1, h2⟩
 | .hp i off, v, j => by
  obtain ⟨p, h1, h2⟩ := j
  exact ⟨p, h.pre _ _ h1, h2⟩
 | .mp i, v, j => by
  obtain ⟨p, h1, h2⟩ := j
  exact ⟨p, h.pre _ _ h1, h2⟩
 | .agg cs, v, j => by
  obtain ⟨vs, h1, h2⟩ := j
  exact ⟨vs, h1, RvL.ext h cs _ h2⟩
 | .tup cs, v, j => by
  obtain ⟨vs, h1, h2⟩ := j
  exact ⟨vs, h1, RvL.ext h cs _ h2⟩
 | .fn f D cs, v, j => by
  obtain ⟨a, c, h1, h2, m⟩ := j
  exact ⟨a, c, h1, RvL.ext h D _ h2, RvL.ext h cs _ m⟩
theorem RvC.ext {B : Nat -> Prop} {w w' : World} {mu mu' : Nat -> Prop} {π π' : List (Option PB)} (h : Ext B w w' mu mu' π π') : (cs : List AV) -> (b o : Nat) -> w'.heap[b]? = w.heap[b]? -> RvC w mu π cs b o -> RvC w' mu' π' cs b o
 | [], _, _, _, _ => trivial
 | c :: cs, b, o, hb, hc => by
  obtain ⟨⟨v, h1, h2, j⟩, m⟩ := hc
  exact ⟨⟨v, by rw [yD hb]; exact h1, h2, Rv.ext h c v j⟩, RvC.ext h cs b (o + 1) hb m⟩
theorem RvL.ext {B : Nat -> Prop} {w w' : World} {mu mu' : Nat -> Prop} {π π' : List (Option PB)} (h : Ext B w w' mu mu' π π') : (cs : List AV) -> (vs : List Value) -> RvL w mu π cs vs -> RvL w' mu' π' cs vs
 | [], _, m => m
 | c :: cs, vs, m => by
  obtain ⟨v, j, h1, h2, q⟩ := m
  exact ⟨v, j, h1, Rv.ext h c v h2, RvL.ext h cs j q⟩
end
def aJ (out : Nat -> Prop) (π : List (Option PB)) (H : List Blk) (b : Nat) : Prop :=
 out b \/ ∃ (i : Nat) (x : Blk) (p : PB), H[i]? = some x /\ x.hZ = true /\ π[i]? = some (some p) /\ p.blk = b
def RvM (w : World) (mu : Nat -> Prop) (π : List (Option PB)) : Nat -> List (Value × AV) -> List MapEntry -> Prop
 | _, [], l => l = []
 | i, (k, A) :: es, l => ∃ e j, l = e :: j /\ e.key = k /\ e.born = i /\ Rv w mu π A e.val /\ RvM w mu π (i + 1) es j
theorem RvM.ext {B : Nat -> Prop} {w w' : World} {mu mu' : Nat -> Prop} {π π' : List (Option PB)} (h : Ext B w w' mu mu' π π') : (i : Nat) -> (es : List (Value × AV)) -> (l : List MapEntry) -> RvM w mu π i es l -> RvM w' mu' π' i es l
 | _, [], _, j => j
 | i, (k, A) :: es, l, j => by
  obtain ⟨e, m, h1, h2, q, z, C⟩ := j
  exact ⟨e, m, h1, h2, q, Rv.ext h A _ z, RvM.ext h (i + 1) es m C⟩
def gr (w : World) (mu : Nat -> Prop) (π : List (Option PB)) (p : PB) : Blk -> Prop
 | .dead => True
 | .own cs => (∃ c e, w.heap[p.blk]? = some (.cells c e (0, 0)) /\ c.size = p.size) /\ RvC w mu π cs p.blk p.off
 | .fix cs => RvC w mu π cs p.blk p.off
 | .map es => ∃ a, w.heap[p.blk]? = some (.map a a.size) /\ RvM w mu π 0 es a.toList
 | .iter m n seen => p.off = 0 /\ ∃ q, π[m]? = some (some q) /\ w.heap[p.blk]? = some (.mapIter (some q.blk) n seen.toArray n)
theorem gr.ext {B : Nat -> Prop} {w w' : World} {mu mu' : Nat -> Prop} {π π' : List (Option PB)} (h : Ext B w w' mu mu' π π') {p : PB} {x : Blk} (hb : x.isLive = true -> w'.heap[p.blk]? = w.heap[p.blk]?)
  (hx : gr w mu π p x) : gr w' mu' π' p x := by
 cases x with
 | dead => trivial
 | own cs => obtain ⟨⟨c, e, h1, h2⟩, j⟩ := hx; exact ⟨⟨c, e, by rw [hb rfl]; exact h1, h2⟩, RvC.ext h cs _ _ (hb rfl) j⟩
 | fix cs => exact RvC.ext h cs _ _ (hb rfl) hx
 | map es => obtain ⟨a, h1, h2⟩ := hx; exact ⟨a, by rw [hb rfl]; exact h1, RvM.ext h 0 es _ h2⟩
 | iter m n seen => obtain ⟨z, q, h1, h2⟩ := hx; exact ⟨z, q, h.pre _ _ h1, by rw [hb rfl]; exact h2⟩
structure Inv (out : Nat -> Prop) (B : Nat -> Prop) (w : World) (π : List (Option PB)) (H : List Blk) : Prop where
 len : π.length = H.length
 bound : ∀ b, B b -> b < w.heap.size
 out_lt : ∀ b, out b -> B b
 base : ∀ (i : Nat) (x : Blk) (p : PB), H[i]? = some x -> π[i]? = some (some p) -> x.isLive = true -> ¬ B p.blk /\ p.blk < w.heap.size
 ok : ∀ (i : Nat) (x : Blk) (p : PB), H[i]? = some x -> π[i]? = some (some p) -> gr w (aJ out π H) π p x
 sep : ∀ (i j : Nat) (x y : Blk) (p q : PB), i ≠ j -> H[i]? = some x -> H[j]? = some y -> π[i]? = some (some p) -> π[j]? = some (some q) -> x.hZ = true -> y.isLive = true -> p.blk ≠ q.blk
theorem Blk.bF {x : Blk} (h : x.hZ = true) : x.isLive = true := by cases x <;> simp_all [Blk.hZ, Blk.isLive]
theorem aT {α : Type} {l : List α} {i : Nat} {x : α} (h : l[i]? = some x) : i < l.length := (List.getElem?_eq_some_iff.1 h).1
def upd {α : Type} (l : List α) (i : Nat) (x : α) : List α := if i < l.length then l.set i x else l ++ [x]
theorem fb {α : Type} {l : List α} {i j : Nat} {x : α} (hi : i <= l.length) : (upd l i x)[j]? = if j = i then some x else l[j]? := by
 unfold upd
 split
 · rw [List.getElem?_set]
   by_cases m : j = i
   · subst m; simp [*]
   · rw [if_neg (fun e => m e.symm), if_neg m]
 · obtain rfl : i = l.length := by omega
   by_cases m : j = l.length
   · subst m; simp
   · rw [if_neg m]
     by_cases q : j < l.length
     · rw [List.getElem?_append_left q]
     · rw [List.getElem?_eq_none (by simp; omega), List.getElem?_eq_none (by omega)]
theorem iw {α : Type} {l : List α} {i j : Nat} {x y : α} (hi : i <= l.length) (h : (upd l i x)[j]? = some y) : (j = i /\ y = x) \/ (j ≠ i /\ l[j]? = some y) := by
 rw [fb hi] at h
 split at h
 · rename_i e; cases h; exact .inl ⟨e, rfl⟩
 · rename_i e; exact .inr ⟨e, h⟩
theorem dm {α : Type} {l : List α} {i : Nat} {x : α} (hi : i <= l.length) : (upd l i x).length = if i = l.length then l.length + 1 else l.length := by
 unfold upd
 split
 · rw [List.length_set, if_neg (by omega)]
 · rw [if_pos (by omega)]; simp
theorem q9 {out : Nat -> Prop} {B : Nat -> Prop} {w : World} {π : List (Option PB)} {H : List Blk} (C : Inv out B w π H) (o : Obj) (x : Blk) (p : PB) (hp : p.blk = w.heap.size) {n : Nat} (E : n <= H.length) (I : ∀ q, π[n]? ≠ some (some q)) :
  Ext B w (w.alloc o) (aJ out π H) (aJ out (upd π n (some p)) (upd H n x)) π (upd π n (some p)) := by
 have N := C.len
 refine ⟨fun b hb => ?_, by simp, fun b hb hm => ⟨?_, ?_⟩, ?_, rfl, rfl, rfl, fun _ => Nat.le_refl _⟩
 · have := C.bound b hb; simp only [World.alloc, Array.getElem?_push]; rw [if_neg (by omega)]
 · simp only [World.alloc, Array.getElem?_push]; rw [if_neg (by omega)]
 · rintro (J | ⟨i, y, q, h1, h2, D, M⟩)
   · exact hm (.inl J)
   · rcases iw E h1 with ⟨rfl, rfl⟩ | ⟨hi, j⟩
     · rcases iw (by omega) D with ⟨_, e⟩ | ⟨m, _⟩
       · cases e; omega
       · exact m rfl
     · rcases iw (by omega) D with ⟨e, _⟩ | ⟨_, z⟩
       · exact hi e
       · exact hm (.inr ⟨i, y, q, j, h2, z, M⟩)
 · intro i q h
   rw [fb (by omega), if_neg]
   · exact h
   · rintro rfl; exact I q h
theorem Inv.alloc {out : Nat -> Prop} {B : Nat -> Prop} {w : World} {π : List (Option PB)} {H : List Blk} (D : Inv out B w π H) (o : Obj) (x : Blk) (p : PB) (hp : p.blk = w.heap.size) {n : Nat} (M : n <= H.length) (hf : ∀ q, π[n]? ≠ some (some q))
  (hx : gr (w.alloc o) (aJ out (upd π n (some p)) (upd H n x)) (upd π n (some p)) p x) : Inv out B (w.alloc o) (upd π n (some p)) (upd H n x) := by
 have hE := q9 D o x p hp M hf
 have hl := D.len
 have split : ∀ {j : Nat} {z : Blk} {q : PB}, (upd H n x)[j]? = some z -> (upd π n (some p))[j]? = some (some q) -> (j = n /\ z = x /\ q = p) \/ (j ≠ n /\ H[j]? = some z /\ π[j]? = some (some q)) := by
  intro j z q g1 g2
  rcases iw M g1 with ⟨rfl, rfl⟩ | ⟨hj, N⟩
  · rcases iw (by omega) g2 with ⟨_, e⟩ | ⟨O, _⟩
    · cases e; exact .inl ⟨rfl, rfl, rfl⟩
    · exact (O rfl).elim
  · rcases iw (by omega) g2 with ⟨e, _⟩ | ⟨_, T⟩
    · exact (hj e).elim
    · exact .inr ⟨hj, N, T⟩
 refine ⟨by rw [dm (by omega), dm M, hl], fun b hb => by have := D.bound b hb; simp; omega, D.out_lt, ?_, ?_, ?_⟩
 · intro i y q h1 h2 U
   rcases split h1 h2 with ⟨rfl, rfl, rfl⟩ | ⟨_, C, m⟩
   · exact ⟨fun hb => by have := D.bound _ hb; omega, by simp [hp]⟩
   · have := D.base i y q C m U; exact ⟨this.1, by simp; omega⟩
 · intro i y q h1 h2
   rcases split h1 h2 with ⟨rfl, rfl, rfl⟩ | ⟨_, C, m⟩
   · exact hx
   · refine gr.ext hE (fun Y => ?_) (D.ok i y q C m)
     have := D.base i y q C m Y
     simp only [World.alloc, Array.getElem?_push]; rw [if_neg (by omega)]
 · intro i j y z q r I h1 h2 U h4 h5 h6
   rcases split h1 U with ⟨rfl, rfl, rfl⟩ | ⟨_, C, J⟩
   · rcases split h2 h4 with ⟨e, _, _⟩ | ⟨_, m, E⟩
     · exact (I e.symm).elim
     · have := D.base j z r m E h6; omega
   · rcases split h2 h4 with ⟨rfl, rfl, rfl⟩ | ⟨_, m, E⟩
     · have := D.base i y q C J (Blk.bF h5); omega
     · exact D.sep i j y z q r I C m J E h5 h6
theorem jP {w : World} {mu : Nat -> Prop} {π : List (Option PB)} : ∀ (cs : List AV) (vs : List Value) (b o : Nat), RvL w mu π cs vs -> (∀ v ∈ vs, v.oneCell' = true) ->
  (∀ j v, vs[j]? = some v -> w.cell? ⟨b, o + j, none⟩ = some v) -> RvC w mu π cs b o
 | [], _, _, _, _, _, _ => trivial
 | c :: cs, vs, b, o, q, h1, hc => by
  obtain ⟨v, m, rfl, h2, z⟩ := q
  refine ⟨⟨v, by simpa using hc 0 v rfl, h1 v (by simp), h2⟩, jP cs m b (o + 1) z (fun u hu => h1 u (by simp [hu])) fun j u C => ?_⟩
  have := hc (j + 1) u (by simpa using C)
  rwa [show o + 1 + j = o + (j + 1) by omega]
theorem RvC.list {w : World} {mu : Nat -> Prop} {π : List (Option PB)} : ∀ (cs : List AV) (b o : Nat), RvC w mu π cs b o -> ∃ vs : List Value, vs.length = cs.length /\ RvL w mu π cs vs /\ (∀ v ∈ vs, v.oneCell' = true) /\
  (∀ j v, vs[j]? = some v -> w.cell? ⟨b, o + j, none⟩ = some v)
 | [], _, _, _ => ⟨[], rfl, rfl, by simp, by simp⟩
 | c :: cs, b, o, h => by
  obtain ⟨⟨v, h1, h2, q⟩, z⟩ := h
  obtain ⟨vs, C, D, E, I⟩ := RvC.list cs b (o + 1) z
  refine ⟨v :: vs, by simp [C], ⟨v, vs, rfl, q, D⟩, fun u hu => ?_, fun j u m => ?_⟩
  · rcases List.mem_cons.1 hu with rfl | hu
    · exact h2
    · exact E u hu
  · cases j with
    | zero => simp at m; subst m; exact h1
    | succ j =>
     have := I j u (by simpa using m)
     rwa [show o + 1 + j = o + (j + 1) by omega] at this
theorem RvL.length {w : World} {mu : Nat -> Prop} {π : List (Option PB)} : ∀ (cs : List AV) (vs : List Value), RvL w mu π cs vs -> vs.length = cs.length
 | [], _, h => by cases h; rfl
 | c :: cs, _, h => by obtain ⟨v, j, rfl, _, h2⟩ := h; simp [RvL.length cs j h2]
theorem RvL.get {w : World} {mu : Nat -> Prop} {π : List (Option PB)} : ∀ (cs : List AV) (vs : List Value) (i : Nat) (c : AV), RvL w mu π cs vs -> cs[i]? = some c -> ∃ v, vs[i]? = some v /\ Rv w mu π c v
 | [], _, i, c, h, hc => by simp at hc
 | c :: cs, _, i, m, h, hc => by
  obtain ⟨v, j, rfl, h1, h2⟩ := h
  cases i with
  | zero => simp at hc; subst hc; exact ⟨v, rfl, h1⟩
  | succ i => simpa using RvL.get cs j i m h2 (by simpa using hc)
theorem RvL.append {w : World} {mu : Nat -> Prop} {π : List (Option PB)} : ∀ (cs m : List AV) (vs us : List Value), RvL w mu π cs vs -> RvL w mu π m us -> RvL w mu π (cs ++ m) (vs ++ us)
 | [], _, _, _, h, k => by cases h; exact k
 | c :: cs, m, _, us, h, k => by obtain ⟨v, j, rfl, h1, h2⟩ := h; exact ⟨v, j ++ us, rfl, h1, RvL.append cs m j us h2 k⟩
theorem RvL.take {w : World} {mu : Nat -> Prop} {π : List (Option PB)} : ∀ (n : Nat) (cs : List AV) (vs : List Value), RvL w mu π cs vs -> RvL w mu π (cs.take n) (vs.take n)
 | 0, _, _, _ => by simp [RvL]
 | n + 1, [], _, h => by cases h; simp [RvL]
 | n + 1, c :: cs, _, h => by obtain ⟨v, j, rfl, h1, h2⟩ := h; exact ⟨v, j.take n, rfl, h1, RvL.take n cs j h2⟩
theorem RvL.drop {w : World} {mu : Nat -> Prop} {π : List (Option PB)} : ∀ (n : Nat) (cs : List AV) (vs : List Value), RvL w mu π cs vs -> RvL w mu π (cs.drop n) (vs.drop n)
 | 0, _, _, h => h
 | n + 1, [], _, h => by cases h; simp [RvL]
 | n + 1, c :: cs, _, h => by obtain ⟨v, j, rfl, h1, h2⟩ := h; exact RvL.drop n cs j h2
theorem RvL.set {w : World} {mu : Nat -> Prop} {π : List (Option PB)} : ∀ (cs : List AV) (vs : List Value) (i : Nat) (A : AV) (v : Value), RvL w mu π cs vs -> Rv w mu π A v -> RvL w mu π (cs.set i A) (vs.set i v)
 | [], _, i, A, v, h, k => by cases h; simp [RvL]
 | c :: cs, _, i, A, v, h, k => by
  obtain ⟨u, j, rfl, h1, h2⟩ := h
  cases i with
  | zero => exact ⟨v, j, rfl, k, h2⟩
  | succ i => exact ⟨u, j.set i v, rfl, h1, RvL.set cs j i A v h2 k⟩
theorem RvL.mE {w : World} {mu : Nat -> Prop} {π : List (Option PB)} : ∀ (cs : List AV) (vs : List Value), vs.length = cs.length -> (∀ (i : Nat) (c : AV) (v : Value), cs[i]? = some c -> vs[i]? = some v -> Rv w mu π c v) -> RvL w mu π cs vs
 | [], vs, h, _ => by simpa [RvL] using h
 | c :: cs, [], h, _ => by simp at h
 | c :: cs, v :: vs, h, k => ⟨v, vs, rfl, k 0 c v rfl rfl, RvL.mE cs vs (by simpa using h) fun i c v h1 h2 => k (i + 1) c v (by simpa using h1) (by simpa using h2)⟩
theorem RvC.get {w : World} {mu : Nat -> Prop} {π : List (Option PB)} : ∀ (cs : List AV) (b o i : Nat) (c : AV), RvC w mu π cs b o -> cs[i]? = some c -> ∃ v, w.cell? ⟨b, o + i, none⟩ = some v /\ v.oneCell' = true /\ Rv w mu π c v
 | [], _, _, i, c, _, hc => by simp at hc
 | c :: cs, b, o, i, j, h, hc => by
  obtain ⟨⟨v, h1, h2, m⟩, q⟩ := h
  cases i with
  | zero => simp at hc; subst hc; exact ⟨v, h1, h2, m⟩
  | succ i =>
   have := RvC.get cs b (o + 1) i j q (by simpa using hc)
   rwa [show o + 1 + i = o + (i + 1) by omega] at this
theorem RvC.drop {w : World} {mu : Nat -> Prop} {π : List (Option PB)} : ∀ (n : Nat) (cs : List AV) (b o : Nat), RvC w mu π cs b o -> RvC w mu π (cs.drop n) b (o + n)
 | 0, _, _, _, h => h
 | n + 1, [], _, _, _ => by simp [RvC]
 | n + 1, c :: cs, b, o, h => by
  have := RvC.drop n cs b (o + 1) h.2
  rwa [show o + 1 + n = o + (n + 1) by omega] at this
theorem RvC.take {w : World} {mu : Nat -> Prop} {π : List (Option PB)} : ∀ (n : Nat) (cs : List AV) (b o : Nat), RvC w mu π cs b o -> RvC w mu π (cs.take n) b o
 | 0, _, _, _, _ => by simp [RvC]
 | n + 1, [], _, _, _ => by simp [RvC]
 | n + 1, c :: cs, b, o, h => ⟨h.1, RvC.take n cs b (o + 1) h.2⟩
theorem RvC.bound {w : World} {mu : Nat -> Prop} {π : List (Option PB)} {cs : List AV} {b o : Nat} {c : Array Value} {e : TypeId} {f : Nat × Nat} (h : RvC w mu π cs b o) (hb : w.heap[b]? = some (.cells c e f)) (j : cs ≠ []) :
  o + cs.length <= c.size := by
 have m : cs.length - 1 < cs.length := by have := List.length_pos_iff.2 j; omega
 obtain ⟨v, h1, _⟩ := RvC.get cs b o (cs.length - 1) cs[cs.length - 1] h (List.getElem?_eq_getElem m)
 simp only [World.cell?, hb] at h1
 have := (Array.getElem?_eq_some_iff.1 (by simpa using h1)).1
 omega
theorem fZ {α : Type} {l : List α} {i j : Nat} {y x : α} (h : (l.set i y)[j]? = some x) : (i = j /\ x = y) \/ (i ≠ j /\ l[j]? = some x) := by
 rw [List.getElem?_set] at h
 split at h
 · rename_i m
   subst m
   split at h
   · cases h; exact .inl ⟨rfl, rfl⟩
   · cases h
 · rename_i m; exact .inr ⟨m, h⟩
theorem Inv.tG {out : Nat -> Prop} {B : Nat -> Prop} {w w' : World} {π : List (Option PB)} {H : List Blk} (D : Inv out B w π H) {i : Nat} {x : Blk} {p : PB} (h1 : H[i]? = some x) (hp : π[i]? = some (some p)) (hm : x.hZ = true) (y : Blk)
  (hs : w'.heap.size = w.heap.size) (T : ∀ b, b ≠ p.blk -> w'.heap[b]? = w.heap[b]?) (ho : w'.os = w.os) (ht : w'.tape = w.tape) (hu : w'.output = w.output) (hd : Dr.d = true -> w.drawn <= w'.drawn)
  (hy : Ext B w w' (aJ out π H) (aJ out π (H.set i y)) π π -> gr w' (aJ out π (H.set i y)) π p y) :
  Ext B w w' (aJ out π H) (aJ out π (H.set i y)) π π /\ Inv out B w' π (H.set i y) := by
 have U : Ext B w w' (aJ out π H) (aJ out π (H.set i y)) π π := by
  refine ⟨fun b hb => T b (by rintro rfl; exact (D.base i x p h1 hp (Blk.bF hm)).1 hb), by omega, fun b hb Y => ?_, fun _ _ h => h, ho, ht, hu, hd⟩
  have N : b ≠ p.blk := fun e => Y (.inr ⟨i, x, p, h1, hm, hp, e.symm⟩)
  refine ⟨T b N, ?_⟩
  rintro (a0 | ⟨j, z, q, g1, C, E, M⟩)
  · exact Y (.inl a0)
  · rcases fZ g1 with ⟨rfl, rfl⟩ | ⟨_, m⟩
    · rw [hp] at E; cases E; exact N M.symm
    · exact Y (.inr ⟨j, z, q, m, C, E, M⟩)
 refine ⟨U, by simp [D.len], fun b hb => by have := D.bound b hb; omega, D.out_lt, ?_, ?_, ?_⟩
 · intro j z q g1 C E
   rcases fZ g1 with ⟨rfl, rfl⟩ | ⟨_, m⟩
   · have := D.base i x q h1 C (Blk.bF hm); exact ⟨this.1, by omega⟩
   · have := D.base j z q m C E; exact ⟨this.1, by omega⟩
 · intro j z q g1 C
   rcases fZ g1 with ⟨rfl, rfl⟩ | ⟨O, m⟩
   · rw [hp] at C; cases C; exact hy U
   · exact gr.ext U (fun hl => T _ (fun e => D.sep i j x z p q O h1 m hp C hm hl e.symm)) (D.ok j z q m C)
 · intro j k z t q r I g1 C E M g5 g6
   rcases fZ g1 with ⟨rfl, rfl⟩ | ⟨O, m⟩
   · rcases fZ C with ⟨rfl, _⟩ | ⟨_, J⟩
     · exact (I rfl).elim
     · exact D.sep i k x t q r I h1 J E M hm g6
   · rcases fZ C with ⟨rfl, rfl⟩ | ⟨_, J⟩
     · exact D.sep j i z x q r I m h1 E M g5 (Blk.bF hm)
     · exact D.sep j k z t q r I m J E M g5 g6
theorem Inv.kill {out : Nat -> Prop} {B : Nat -> Prop} {w w' : World} {π : List (Option PB)} {H : List Blk} (D : Inv out B w π H) (i : Nat) (E : w'.heap = w.heap) (ho : w'.os = w.os) (ht : w'.tape = w.tape) (hu : w'.output = w.output) (hd : Dr.d = true -> w.drawn <= w'.drawn) :
  Ext B w w' (aJ out π H) (aJ out π (H.set i .dead)) π π /\ Inv out B w' π (H.set i .dead) := by
 have T : Ext B w w' (aJ out π H) (aJ out π (H.set i .dead)) π π := by
  refine ⟨fun b _ => by rw [E], by rw [E]; exact Nat.le_refl _, fun b _ U => ⟨by rw [E], ?_⟩, fun _ _ h => h, ho, ht, hu, hd⟩
  rintro (J | ⟨j, z, q, g1, C, I, M⟩)
  · exact U (.inl J)
  · rcases fZ g1 with ⟨rfl, rfl⟩ | ⟨_, m⟩
    · simp [Blk.hZ] at C
    · exact U (.inr ⟨j, z, q, m, C, I, M⟩)
 refine ⟨T, by simp [D.len], by rw [E]; exact D.bound, D.out_lt, ?_, ?_, ?_⟩
 · intro j z q g1 C I
   rcases fZ g1 with ⟨rfl, rfl⟩ | ⟨_, m⟩
   · simp [Blk.isLive] at I
   · rw [E]; exact D.base j z q m C I
 · intro j z q g1 C
   rcases fZ g1 with ⟨rfl, rfl⟩ | ⟨_, m⟩
   · trivial
   · exact gr.ext T (fun _ => by rw [E]) (D.ok j z q m C)
 · intro j k z t q r N g1 C I M Y g6
   rcases fZ g1 with ⟨rfl, rfl⟩ | ⟨_, m⟩
   · simp [Blk.hZ] at Y
   · rcases fZ C with ⟨rfl, rfl⟩ | ⟨_, O⟩
     · simp [Blk.isLive] at g6
     · exact D.sep j k z t q r N m O I M Y g6
theorem Inv.u6 {out : Nat -> Prop} {B : Nat -> Prop} {w : World} {π : List (Option PB)} {H : List Blk} (D : Inv out B w π H) {n : Nat} (U : n <= H.length) (hf : ∀ q, π[n]? ≠ some (some q)) (y : Blk) :
  Ext B w w (aJ out π H) (aJ out (upd π n none) (upd H n y)) π (upd π n none) /\ Inv out B w (upd π n none) (upd H n y) := by
 have hl := D.len
 have split : ∀ {j : Nat} {z : Blk} {q : PB}, (upd H n y)[j]? = some z -> (upd π n none)[j]? = some (some q) -> H[j]? = some z /\ π[j]? = some (some q) := by
  intro j z q g1 m
  rcases iw U g1 with ⟨rfl, rfl⟩ | ⟨hj, I⟩
  · rcases iw (by omega) m with ⟨_, e⟩ | ⟨J, _⟩
    · cases e
    · exact (J rfl).elim
  · rcases iw (by omega) m with ⟨e, _⟩ | ⟨_, M⟩
    · exact (hj e).elim
    · exact ⟨I, M⟩
 have N : ∀ b, aJ out (upd π n none) (upd H n y) b -> aJ out π H b := by
  rintro b (C | ⟨j, z, q, g1, m, E, O⟩)
  · exact .inl C
  · obtain ⟨f1, f2⟩ := split g1 E
    exact .inr ⟨j, z, q, f1, m, f2, O⟩
 have Y : Ext B w w (aJ out π H) (aJ out (upd π n none) (upd H n y)) π (upd π n none) := ⟨fun _ _ => rfl, Nat.le_refl _, fun b _ hb => ⟨rfl, fun C => hb (N b C)⟩, fun j q h => by
  rw [fb (by omega), if_neg]
  · exact h
  · rintro rfl; exact hf q h, rfl, rfl, rfl, fun _ => Nat.le_refl _⟩
 refine ⟨Y, by rw [dm (by omega), dm U, hl], D.bound, D.out_lt, ?_, ?_, ?_⟩
 · intro j z q g1 m E
   obtain ⟨f1, f2⟩ := split g1 m
   exact D.base j z q f1 f2 E
 · intro j z q g1 m
   obtain ⟨f1, f2⟩ := split g1 m
   exact gr.ext Y (fun _ => rfl) (D.ok j z q f1 f2)
 · intro j k z t q r T g1 m E O g5 g6
   obtain ⟨f1, f3⟩ := split g1 E
   obtain ⟨f2, f4⟩ := split m O
   exact D.sep j k z t q r T f1 f2 f3 f4 g5 g6
theorem Inv.grow {out : Nat -> Prop} {B : Nat -> Prop} {w w' : World} {π : List (Option PB)} {H : List Blk} (E : Inv out B w π H) {i : Nat} {x : Blk} {p : PB} (h1 : H[i]? = some x) (hp : π[i]? = some (some p)) (hm : x.hZ = true) (y : Blk) (p' : PB) (J : p'.blk = p.blk)
  {n : Nat} (hn : n <= H.length) (hf : ∀ q, π[n]? ≠ some (some q))
  (hs : w'.heap.size = w.heap.size) (hh : ∀ b, b ≠ p.blk -> w'.heap[b]? = w.heap[b]?) (ho : w'.os = w.os) (ht : w'.tape = w.tape) (hu : w'.output = w.output) (hd : Dr.d = true -> w.drawn <= w'.drawn)
  (hy : Ext B w w' (aJ out π H) (aJ out (upd π n (some p')) (upd (H.set i .dead) n y)) π (upd π n (some p')) -> gr w' (aJ out (upd π n (some p')) (upd (H.set i .dead) n y)) (upd π n (some p')) p' y) :
  Ext B w w' (aJ out π H) (aJ out (upd π n (some p')) (upd (H.set i .dead) n y)) π (upd π n (some p')) /\ Inv out B w' (upd π n (some p')) (upd (H.set i .dead) n y) := by
 have hl := E.len
 have U : n <= (H.set i .dead).length := by simpa using hn
 have split : ∀ {j : Nat} {z : Blk} {q : PB}, (upd (H.set i .dead) n y)[j]? = some z -> (upd π n (some p'))[j]? = some (some q) -> z.isLive = true -> (j = n /\ z = y /\ q = p') \/ (i ≠ j /\ j ≠ n /\ H[j]? = some z /\ π[j]? = some (some q)) := by
  intro j z q g1 D N
  rcases iw U g1 with ⟨rfl, rfl⟩ | ⟨hj, m⟩
  · rcases iw (by omega) D with ⟨_, e⟩ | ⟨a2, _⟩
    · cases e; exact .inl ⟨rfl, rfl, rfl⟩
    · exact (a2 rfl).elim
  · rcases iw (by omega) D with ⟨e, _⟩ | ⟨_, C⟩
    · exact (hj e).elim
    · rcases fZ m with ⟨rfl, rfl⟩ | ⟨I, Y⟩
      · simp [Blk.isLive] at N
      · exact .inr ⟨I, hj, Y, C⟩
 have hE : Ext B w w' (aJ out π H) (aJ out (upd π n (some p')) (upd (H.set i .dead) n y)) π (upd π n (some p')) := by
  refine ⟨fun b hb => hh b (by rintro rfl; exact (E.base i x p h1 hp (Blk.bF hm)).1 hb), by omega, fun b hb O => ?_, fun j q h => ?_, ho, ht, hu, hd⟩
  · have a0 : b ≠ p.blk := fun e => O (.inr ⟨i, x, p, h1, hm, hp, e.symm⟩)
    refine ⟨hh b a0, ?_⟩
    rintro (a3 | ⟨j, z, q, g1, D, N, g4⟩)
    · exact O (.inl a3)
    · rcases split g1 N (Blk.bF D) with ⟨_, _, rfl⟩ | ⟨_, _, m, M⟩
      · exact a0 (by rw [<- g4, J])
      · exact O (.inr ⟨j, z, q, m, D, M, g4⟩)
  · rw [fb (by omega), if_neg]
    · exact h
    · rintro rfl; exact hf q h
 refine ⟨hE, by rw [dm (by omega), dm U, List.length_set, hl], fun b hb => by have := E.bound b hb; omega, E.out_lt, ?_, ?_, ?_⟩
 · intro j z q g1 D N
   rcases split g1 D N with ⟨_, _, rfl⟩ | ⟨_, _, m, C⟩
   · have := E.base i x p h1 hp (Blk.bF hm); rw [J]; exact ⟨this.1, by omega⟩
   · have := E.base j z q m C N; exact ⟨this.1, by omega⟩
 · intro j z q g1 D
   cases hz : z.isLive with
   | false => cases z <;> simp_all [Blk.isLive, gr]
   | true =>
    rcases split g1 D hz with ⟨_, rfl, rfl⟩ | ⟨I, _, m, C⟩
    · exact hy hE
    · exact gr.ext hE (fun a4 => hh _ (fun e => E.sep i j x z p q I h1 m hp C hm a4 e.symm)) (E.ok j z q m C)
 · intro j k z t q r a5 g1 D N g4 g5 g6
   rcases split g1 N (Blk.bF g5) with ⟨hj, rfl, rfl⟩ | ⟨I, _, m, M⟩
   · rcases split D g4 g6 with ⟨hk, _, _⟩ | ⟨a1, _, C, T⟩
     · omega
     · rw [J]; exact E.sep i k x t p r a1 h1 C hp T hm g6
   · rcases split D g4 g6 with ⟨hk, rfl, rfl⟩ | ⟨a1, _, C, T⟩
     · rw [J]; exact E.sep j i z x q p (fun e => I e.symm) m h1 M hp g5 (Blk.bF hm)
     · exact E.sep j k z t q r a5 m C M T g5 g6
theorem Rv.lift {w : World} {mu : Nat -> Prop} {π : List (Option PB)} {A : AV} {v : Value} (h : Rv w mu [] A v) : Rv w mu π A v :=
 Rv.ext (B := fun _ => False) ⟨fun _ _ => rfl, Nat.le_refl _, fun _ _ h => ⟨rfl, h⟩, fun i p hp => by simp at hp, rfl, rfl, rfl, fun _ => Nat.le_refl _⟩ A v h
theorem RvC.lift {w : World} {mu : Nat -> Prop} {π : List (Option PB)} {cs : List AV} {b o : Nat} (h : RvC w mu [] cs b o) : RvC w mu π cs b o :=
 RvC.ext (B := fun _ => False) ⟨fun _ _ => rfl, Nat.le_refl _, fun _ _ h => ⟨rfl, h⟩, fun i p hp => by simp at hp, rfl, rfl, rfl, fun _ => Nat.le_refl _⟩ cs b o rfl h
end Go.Eng


namespace Go.Eng
open Go
variable [Dr]
def gI {α : Type} (P : Program) : Sem α -> Option α
 | .pure a => some a
 | .program k => gI P (k P)
 | .mark _ k => gI P k
 | _ => none
theorem fy {α : Type} {P : Program} {s : Sem α} {a : α} (h : gI P s = some a) (w : World) : s.run P w = .ok a w := by
 induction s with
 | pure b => simp [gI] at h; subst h; rfl
 | program k j => exact j P (by simpa [gI] using h)
 | mark m k j => exact j (by simpa [gI] using h)
 | _ => simp [gI] at h
mutual
def toV : AV -> Option Value
 | .at v => some v
 | .agg cs => match zk cs with | some l => some (.agg l.toArray) | none => none
 | _ => none
def zk : List AV -> Option (List Value)
 | [] => some []
 | c :: cs => match toV c, zk cs with | some v, some l => some (v :: l) | _, _ => none
end
mutual
theorem iA {w : World} {mu : Nat -> Prop} {π : List (Option PB)} : (A : AV) -> (v x : Value) -> Rv w mu π A v -> toV A = some x -> v = x
 | .at y, v, x, h, e => by simp [toV] at e; subst e; exact h
 | .agg cs, v, x, h, e => by
  obtain ⟨vs, rfl, j⟩ := h
  simp only [toV] at e
  split at e
  · rename_i l m
    cases e
    have := mP cs vs.toList l j m
    rw [<- this]
  · cases e
 | .unk, _, _, _, e | .sl .., _, _, _, e | .pp .., _, _, _, e | .hs .., _, _, _, e | .hp .., _, _, _, e | .mp .., _, _, _, e | .tup .., _, _, _, e | .fn .., _, _, _, e => by simp [toV] at e
theorem mP {w : World} {mu : Nat -> Prop} {π : List (Option PB)} : (cs : List AV) -> (vs l : List Value) -> RvL w mu π cs vs -> zk cs = some l -> vs = l
 | [], vs, l, h, e => by simp [zk] at e; subst e; exact h
 | c :: cs, vs, l, h, e => by
  obtain ⟨v, j, rfl, h1, h2⟩ := h
  simp only [zk] at e
  split at e
  · rename_i y q z m
    cases e
    rw [iA c v y h1 z, mP cs j q h2 m]
  · cases e
end
def eZ (P : Program) (t : TypeId) : Option Nat := match P.info? t with | some i => some i.size | none => none
def pI (P : Program) (t : TypeId) : Option Nat := match P.info? t with | some i => some i.bytes | none => none
def Ct (P : Program) (t : TypeId) : Option Bool := match P.underlying t with | some (.struct _) => some true | some (.array _ _) => some true | some _ => some false | none => none
def ko (P : Program) (t : TypeId) : Option (List AV) := match P.info? t with | some i => (match i.zero with | some z => some (z.cells.toList.map .at) | none => none) | none => none
def cellsOf : AV -> List AV
 | .agg cs => cs
 | .at (.agg a) => a.toList.map .at
 | x => [x]
def fI : AV -> Bool
 | .unk | .agg _ | .tup _ => false
 | .at v => v.oneCell'
 | _ => true
theorem fX {w : World} {mu : Nat -> Prop} {π : List (Option PB)} {A : AV} {v : Value} (h : Rv w mu π A v) (hc : fI A = true) : v.oneCell' = true := by
 cases A <;> simp only [fI, Rv] at h hc
 case «at» x => subst h; exact hc
 case sl nl cs len => rcases h with ⟨_, _, _, rfl⟩ | ⟨b, o, cap, rfl, _⟩ | ⟨_, _, a, cap, rfl⟩ <;> rfl
 case pp cs off => obtain ⟨b, o, rfl, _⟩ := h; rfl
 case hs => rcases h with ⟨_, rfl⟩ | ⟨p, a, cap, _, rfl, _⟩ <;> rfl
 case hp => obtain ⟨p, _, rfl⟩ := h; rfl
 case mp => obtain ⟨p, _, rfl⟩ := h; rfl
 case fn => obtain ⟨a, c, rfl, _⟩ := h; rfl
 all_goals simp at hc
theorem fm {w : World} {mu : Nat -> Prop} {π : List (Option PB)} : ∀ (l : List Value), RvL w mu π (l.map .at) l
 | [] => rfl
 | v :: l => ⟨v, l, rfl, rfl, fm l⟩
theorem nO {w : World} {mu : Nat -> Prop} {π : List (Option PB)} {A : AV} {v : Value} (h : Rv w mu π A v) (hc : (cellsOf A).all fI = true) :
  RvL w mu π (cellsOf A) v.cells.toList /\ ∀ u ∈ v.cells.toList, u.oneCell' = true := by
 have key : RvL w mu π (cellsOf A) v.cells.toList := by
  have one : ∀ {A : AV} {v : Value}, Rv w mu π A v -> v.oneCell' = true -> RvL w mu π [A] v.cells.toList := by
   intro A v h h1
   have j : v.cells = #[v] := by cases v <;> simp_all [Value.cells, Value.oneCell']
   rw [j]; exact ⟨v, [], rfl, h, rfl⟩
  cases A with
  | agg cs => obtain ⟨vs, rfl, h2⟩ := h; exact h2
  | «at» x =>
   cases x with
   | agg a => cases h; exact fm a.toList
   | _ => exact one h (fX h (by simpa [cellsOf] using hc))
  | unk => simp [cellsOf, fI] at hc
  | tup => simp [cellsOf, fI] at hc
  | sl nl cs len => exact one h (fX h rfl)
  | pp => exact one h (fX h rfl)
  | hs => exact one h (fX h rfl)
  | hp => exact one h (fX h rfl)
  | mp => exact one h (fX h rfl)
  | fn => exact one h (fX h rfl)
 refine ⟨key, ?_⟩
 generalize cellsOf A = cs at *
 generalize v.cells.toList = vs at *
 clear h
 induction cs generalizing vs with
 | nil => cases key; simp
 | cons c cs m =>
  obtain ⟨u, us, rfl, h1, h2⟩ := key
  simp only [List.all_cons, Bool.and_eq_true] at hc
  intro x hx
  rcases List.mem_cons.1 hx with rfl | hx
  · exact fX h1 hc.1
  · exact m hc.2 us h2 x hx
def setCells : List AV -> Nat -> List AV -> List AV
 | cs, _, [] => cs
 | cs, off, x :: xs => setCells (cs.set off x) (off + 1) xs
def ry (place : Nat -> Option (Nat × Nat)) (cells : List AV) : List (Nat × AV) -> Option (List AV)
 | [] => some cells
 | (i, x) :: rest =>
  match place i with
  | none => none
  | some (off, size) =>
   match decide ((cellsOf x).length = size) && decide (off + (cellsOf x).length <= cells.length) && (cellsOf x).all fI with
   | true => ry place (setCells cells off (cellsOf x)) rest
   | false => none
def pN (P : Program) (t : TypeId) (cs : List AV) (off : Nat) : Option AV :=
 match Ct P t with
 | some true => (match eZ P t with | some n => some (.agg ((cs.drop off).take n)) | none => none)
 | some false => cs[off]?
 | none => none
def cellAt (H : List Blk) : AV -> Option AV
 | .hp i off => match H[i]? with | some (.own cs) => cs[off]? | some (.fix cs) => cs[off]? | _ => none
 | .pp cs off => cs[off]?
 | _ => none
def mF (H : List Blk) : AV -> Option (List AV)
 | .hp i off => match H[i]? with | some (.own cs) => some (cs.drop off) | some (.fix cs) => some (cs.drop off) | _ => none
 | .pp cs off => some (cs.drop off)
 | _ => none
def xb (P : Program) (H : List Blk) (t : TypeId) (a : AV) : Option AV :=
 match Ct P t with
 | some true => (match eZ P t, mF H a with | some n, some cs => (match decide (n <= cs.length) with | true => some (.agg (cs.take n)) | false => none) | _, _ => none)
 | some false => cellAt H a
 | none => none
def yx (P : Program) (H : List Blk) (t : TypeId) (a x : AV) : Option (List (Nat × Blk)) :=
 match a with
 | .hp i off => match H[i]?, eZ P t with
  | some (.own cs), some n => (match decide ((cellsOf x).length = n) && decide (off + n <= cs.length) && (cellsOf x).all fI with | true => some [(i, .own (setCells cs off (cellsOf x)))] | false => none)
  | _, _ => none
 | _ => none
def gw (H : List Blk) (es : Nat) : AV -> Option (List AV × Nat)
 | .at (.slice none 0 0) => some ([], 0)
 | .sl _ cs len => (match decide (cs.length = len * es) with | true => some (cs, len) | false => none)
 | .hs i off len _ => match H[i]? with
  | some (.own cs) => (match decide (off + len * es <= cs.length) with | true => some ((cs.drop off).take (len * es), len) | false => none)
  | some (.fix cs) => (match decide (off + len * es <= cs.length) with | true => some ((cs.drop off).take (len * es), len) | false => none)
  | _ => none
 | _ => none
def AN : AV -> Option Int | .at (.int _ n) => some n | _ => none
def zT : AV -> Option (IntKind × Int) | .at (.int k n) => some (k, n) | _ => none
def Cb (n : Nat) : AV -> Option AV
 | .hp i off => some (.hp i (off + n))
 | .pp cs off => some (.pp cs (off + n))
 | _ => none
def rP (P : Program) (t : TypeId) (x j : AV) : Option AV :=
 match P.underlying t, AN j with
 | some (.slice e), some i => (match eZ P e, x with
  | some n, .sl _ cs len => (match decide (0 <= i) && decide (i < len) with | true => some (.pp cs (i.toNat * n)) | false => none)
  | some n, .hs b off len _ => (match decide (0 <= i) && decide (i < len) with | true => some (.hp b (off + i.toNat * n)) | false => none)
  | _, _ => none)
 | some (.array len e), some i => (match eZ P e with
  | some n => (match decide (0 <= i) && decide (i < len) with | true => Cb (i.toNat * n) x | false => none)
  | none => none)
 | _, _ => none
def rV (P : Program) (s : TypeId) (x : AV) (f : Nat) : Option AV :=
 match P.underlying s with
 | some (.struct j) => (match j[f]? with
  | some fd => (match eZ P fd.type with | some 0 => none | some _ => Cb fd.offset x | none => none)
  | none => none)
 | _ => none
def Bf (P : Program) (s : TypeId) (x : AV) (f : Nat) : Option AV :=
 match P.underlying s, x with
 | some (.struct j), .agg cs => (match j[f]? with | some fd => pN P fd.type cs fd.offset | none => none)
 | some (.struct j), .at (.agg a) => (match j[f]? with | some fd => pN P fd.type (a.toList.map .at) fd.offset | none => none)
 | _, _ => none
def Az (P : Program) (t : TypeId) (x j : AV) : Option AV :=
 match P.underlying t, x, AN j with
 | some (.array len e), .agg cs, some i => (match eZ P e, decide (0 <= i) && decide (i < len) with | some n, true => pN P e cs (i.toNat * n) | _, _ => none)
 | some (.array len e), .at (.agg a), some i => (match eZ P e, decide (0 <= i) && decide (i < len) with | some n, true => pN P e (a.toList.map .at) (i.toNat * n) | _, _ => none)
 | some .string, .at s, some _ => (match toV j with | some i => (gI P (Instr.index t s i)).map .at | none => none)
 | _, _, _ => none
def oT (len : Nat) (j hi : Option AV) : Option (Nat × Nat) :=
 match (match j with | none => some 0 | some a => AN a), (match hi with | none => some (len : Int) | some a => AN a) with
 | some l, some h => (match decide (0 <= l) && decide (l <= h) && decide (h <= len) with | true => some (l.toNat, h.toNat) | false => none)
 | _, _ => none
def uf (P : Program) (H : List Blk) (t : TypeId) (x : AV) (j hi : Option AV) : Option AV :=
 match P.underlying t with
 | some (.slice e) => (match eZ P e, x with
  | some n, .sl nl cs len => (match oT len j hi with | some (l, h) => some (.sl nl ((cs.drop (l * n)).take ((h - l) * n)) (h - l)) | none => none)
  | some n, .hs b off len es => (match oT len j hi, decide (es = n) with | some (l, h), true => some (.hs b (off + l * n) (h - l) n) | _, _ => none)
  | some _, .at (.slice none 0 0) => (match oT 0 j hi with | some _ => some (.at (.slice none 0 0)) | none => none)
  | _, _ => none)
 | some (.array len e) => (match eZ P e, x with
  | some n, .hp b off => (match oT len j hi, H[b]? with
   | some (l, h), some (.own cs) => (match decide (off + len * n <= cs.length) && decide (0 < n) with | true => some (.hs b (off + l * n) (h - l) n) | false => none)
   | _, _ => none)
  | some n, .pp cs off => (match oT len j hi with | some (l, h) => some (.sl false ((cs.drop (off + l * n)).take ((h - l) * n)) (h - l)) | none => none)
  | _, _ => none)
 | _ => none
def eU (z : List AV) : Nat -> List AV
 | 0 => []
 | n + 1 => z ++ eU z n
def yy (P : Program) (t : TypeId) (a : AV) (v : Value) : Bool :=
 match P.underlying t, a, v with
 | some (.slice _), .sl nl _ len, .slice none 0 0 => !nl || decide (0 < len)
 | some (.slice _), .hs _ _ len _, .slice none 0 0 => decide (0 < len)
 | some (.pointer _), .hp _ _, .pointer none => true
 | some (.pointer _), .pp _ _, .pointer none => true
 | _, _, _ => false
inductive bs where
 | pure (v : AV)
 | eff (v : AV) (ws : List (Nat × Blk))
 | call (f : FuncId) (args : List AV)
def bs.ofP : Option AV -> Option bs | some v => some (.pure v) | none => none
def aM (H : List Blk) : List (Nat × Blk) -> List Blk
 | [] => H
 | (i, x) :: ws => aM (upd H i x) ws
def ki (H : List Blk) (nid n bytes : Nat) (s x : AV) : Option bs :=
 match gw H n x with
 | none => none
 | some (new, m) =>
  match s with
  | .at (.slice none 0 0) => (match decide (m * bytes <= 140737488355328) && decide (m <= 4611686018427387904) && decide (0 < n) with
   | true => some (.eff (.hs nid 0 m n) [(nid, .own new)])
   | false => none)
  | .sl nl cs len => (match decide (m = 0) with | true => some (.pure (.sl nl cs len)) | false => none)
  | .hs i off len es => match H[i]? with
   | some (.own cs) => (match decide (es = n) && decide (0 < n) && decide (off + len * n <= cs.length) && decide ((len + m) * bytes <= 140737488355328) && decide (len + m <= 4611686018427387904) with
    | true => some (.eff (.hs nid 0 (len + m) n) [(i, .dead), (nid, .own ((cs.drop off).take (len * n) ++ new))])
    | false => none)
   | _ => none
  | _ => none
def sR (nid n bytes : Nat) (z : List AV) (s x : AV) : Option bs :=
 match s, x with
 | .at (.slice none 0 0), .at (.int .i64 k) => (match decide (0 < k) && decide (k <= 4611686018427387904) && decide (k.toNat * bytes <= 140737488355328) && decide (0 < n) && decide (z.length = n) && z.all fI with
  | true => some (.eff (.hs nid 0 k.toNat n) [(nid, .own (eU z k.toNat))])
  | false => none)
 | _, _ => none
def wkN (a : AV) : AV :=
 match a with
 | .at (.slice none 0 0) => .sl true [] 0
 | _ => a
def rW (H : List Blk) (n : Nat) (z : List AV) (d : AV) : Option bs :=
 match d with
 | .hs i off len es => (match H[i]? with
  | some (.own cs) => (match decide (es = n) && decide (off + len * n <= cs.length) && decide (z.length = n) && z.all fI && decide (0 < n) with
   | true => some (.eff (.at (.tuple #[])) [(i, .own (setCells cs off (eU (z.map wkN) len)))])
   | false => none)
  | _ => none)
 | _ => none
def Hd (P : Program) (t : TypeId) (x : AV) : Option AV :=
 match P.underlying t, x with
 | some (.slice _), .sl _ _ len => some (.at (.int .i64 len))
 | some (.slice _), .hs _ _ len _ => some (.at (.int .i64 len))
 | some (.slice _), .at (.slice none 0 0) => some (.at (.int .i64 0))
 | some .string, .at (.string s) => some (.at (.int .i64 s.size))
 | some (.array n _), _ => some (.at (.int .i64 n))
 | _, _ => none
def wA : IntKind -> Int -> Bool
 | .i64, n => decide (-9223372036854775808 <= n) && decide (n <= 9223372036854775807)
 | .u64, n => decide (0 <= n) && decide (n <= 18446744073709551615)
 | .u32, n => decide (0 <= n) && decide (n <= 4294967295)
 | .u8, n => decide (0 <= n) && decide (n <= 255)
 | _, _ => false
def aa (k : IntKind) (n : Int) : Int := match wA k n with | true => n | false => k.wrap n
abbrev IE (n : Int) : Int := aa IntKind.i64 n
theorem jy (k : IntKind) (n : Int) : aa k n = k.wrap n := by
 (try unfold IE); unfold aa
 split
 · rename_i h
   cases k <;> simp only [wA, Bool.and_eq_true, decide_eq_true_eq, Bool.false_eq_true] at h
   · rw [IntKind.wrap_i64]; omega
   · rw [IntKind.wrap_u8]; omega
   · rw [IntKind.wrap_u32]; omega
   · rw [IntKind.wrap_u64]; omega
 · rfl
def tE (op : BinOp) (k : IntKind) (x y : Int) : Option Value :=
 match op with
 | .add => some (.int k (aa k (x + y)))
 | .sub => some (.int k (aa k (x - y)))
 | .mul => some (.int k (aa k (x * y)))
 | .quo => (match decide (y = 0) with | true => none | false => some (.int k (aa k (x.tdiv y))))
 | .rem => (match decide (y = 0) with | true => none | false => some (.int k (x.tmod y)))
 | .eql => some (.bool (x == y))
 | .neq => some (.bool (x != y))
 | .lss => some (.bool (decide (x < y)))
 | .leq => some (.bool (decide (x <= y)))
 | .gtr => some (.bool (decide (x > y)))
 | .geq => some (.bool (decide (x >= y)))
 | _ => none
theorem yP {P : Program} {op : BinOp} {t : TypeId} {a b : Operand} {k : IntKind} {x y : Int} {v : Value} (h : tE op k x y = some v) (w : World) :
  (do eqGuard op t a b (.int k x) (.int k y); binOp op t (.int k x) (.int k y) : Sem Value).run P w = .ok v w := by
 have m : (eqGuard op t a b (.int k x) (.int k y)).run P w = .ok () w := by cases op <;> simp [eqGuard]
 simp only [Sem.run_bind, m, Result.andThen_ok]
 cases op <;> simp only [tE] at h
 case add => cases h; simp [binOp, Op.intArith, jy]
 case sub => cases h; simp [binOp, Op.intArith, jy]
 case mul => cases h; simp [binOp, Op.intArith, jy]
 case quo =>
  split at h
  · cases h
  · rename_i j
    cases h
    have : ¬ y = 0 := by simpa using j
    simp [binOp, Op.intDiv, this, jy]
 case rem =>
  split at h
  · cases h
  · rename_i j
    cases h
    have : ¬ y = 0 := by simpa using j
    simp [binOp, Op.intDiv, this]
 case eql => cases h; simp [binOp, Op.intCmp]
 case neq => cases h; simp [binOp, Op.intCmp]
 case lss => cases h; simp [binOp, Op.intCmp]
 case leq => cases h; simp [binOp, Op.intCmp]
 case gtr => cases h; simp [binOp, Op.intCmp]
 case geq => cases h; simp [binOp, Op.intCmp]
 all_goals cases h
def ss (P : Program) (op : BinOp) (t : TypeId) (x y : Operand) (a b : AV) : Option AV :=
 match toV a, toV b with
 | some u, some v => (match gI P (do eqGuard op t x y u v; binOp op t u v) with | some r => some (.at r) | none => none)
 | none, some v => (match yy P t a v, op with
  | true, .eql => some (.at (.bool false))
  | true, .neq => some (.at (.bool true))
  | _, _ => none)
 | _, _ => none
def IntKind.rO : IntKind -> IntKind -> Bool
 | .i64, .i64 | .u64, .u64 | .u32, .u32 | .u8, .u8 | .i32, .i32 | .i16, .i16 | .i8, .i8 | .u16, .u16 => true
 | _, _ => false
theorem IntKind.mz {k l : IntKind} (h : IntKind.rO k l = true) : k = l := by cases k <;> cases l <;> simp_all [IntKind.rO]
def wW : AV -> Option (List AV)
 | .agg cs => some cs
 | .at (.agg a) => some (a.toList.map .at)
 | _ => none
def zm (P : Program) (f : TypeId -> AV -> AV -> Option Bool) (xs ys : List AV) : List Field -> Option Bool
 | [] => some true
 | g :: j => match decide (g.name = "_") with
  | true => zm P f xs ys j
  | false => match pN P g.type xs g.offset, pN P g.type ys g.offset with
   | some a, some b => (match f g.type a b, zm P f xs ys j with | some r, some s => some (r && s) | _, _ => none)
   | _, _ => none
def AT (P : Program) (f : AV -> AV -> Option Bool) (e : TypeId) (n : Nat) (xs ys : List AV) : Nat -> Nat -> Option Bool
 | 0, _ => some true
 | m + 1, i => match pN P e xs (i * n), pN P e ys (i * n) with
  | some a, some b => (match f a b, AT P f e n xs ys m (i + 1) with | some r, some s => some (r && s) | _, _ => none)
  | _, _ => none
def ug (P : Program) : Nat -> TypeId -> AV -> AV -> Option Bool
 | 0, _, _, _ => none
 | d + 1, t, a, b => match P.underlying t with
  | some (.int _) => (match a, b with | .at (.int k x), .at (.int k' y) => (match IntKind.rO k k' with | true => some (x == y) | false => none) | _, _ => none)
  | some .bool => (match a, b with | .at (.bool x), .at (.bool y) => some (x == y) | _, _ => none)
  | some (.struct j) => (match P.stoodInHeld t, wW a, wW b with | false, some xs, some ys => zm P (ug P d) xs ys j.toList | _, _, _ => none)
  | some (.array n e) => (match eZ P e, wW a, wW b with | some k, some xs, some ys => AT P (ug P d e) e k xs ys n 0 | _, _, _ => none)
  | _ => none
def yN (P : Program) (op : BinOp) (t : TypeId) (a b : AV) : Option AV :=
 match op, P.eqGuardType P.depth t, wW a, wW b with
 | .eql, false, some _, some _ => (match ug P 8 t a b with | some r => some (.at (.bool r)) | none => none)
 | .neq, false, some _, some _ => (match ug P 8 t a b with | some r => some (.at (.bool (!r))) | none => none)
 | _, _, _, _ => none
def tj (P : Program) (op : BinOp) (t : TypeId) (x y : Operand) (a b : AV) : Option AV :=
 match a, b with
 | .at (.int k m), .at (.int k' n) => (match IntKind.rO k k' with
  | true => (match tE op k m n with | some r => some (.at r) | none => ss P op t x y (.at (.int k m)) (.at (.int k' n)))
  | false => ss P op t x y (.at (.int k m)) (.at (.int k' n)))
 | .agg cs, b => yN P op t (.agg cs) b
 | .at (.agg v), .agg cs => yN P op t (.at (.agg v)) (.agg cs)
 | a, b => ss P op t x y a b
def DW (P : Program) (src dst : TypeId) (a : AV) : Option Value :=
 match a with
 | .at (.int _ n) => (match P.underlying src, P.underlying dst with
  | some _, some (.int k) => some (.int k (aa k n))
  | _, _ => none)
 | _ => none
def Dc (t : Bool) : AV -> AV -> AV
 | .at (.bool x), .at (.bool y) => .at (.bool (if t then x else y))
 | a, b => if t then a else b
def DZ (f : Value -> Option Value) (a : AV) : Option bs :=
 match toV a with
 | some v => (match f v with | some r => some (.pure (.at r)) | none => none)
 | none => none
def vR (H : List Blk) (n : Nat) (d x : AV) : Option bs :=
 match gw H n x with
 | none => none
 | some (new, m) => match d with
  | .hs i off len es => (match H[i]? with
   | some (.own cs) => (match decide (es = n) && decide (off + len * n <= cs.length) with
    | true => some (.eff (.at (.int .i64 (Nat.min m len : Nat))) [(i, .own (setCells cs off (new.take (Nat.min m len * n))))])
    | false => none)
   | _ => none)
  | _ => none
def lC (P : Program) (H : List Blk) (nid : Nat) (b : Builtin) (argTypes : Array TypeId) (type : TypeId) (args : List AV) : Option bs :=
 match b, args with
 | .len, [x] => (match argTypes[0]? with | some t => bs.ofP (Hd P t x) | none => none)
 | .append, [s, x] => (match argTypes[0]?, argTypes[1]? with
  | some t, some j => (match P.underlying t, P.underlying j with
   | some (.slice e), some (.slice _) => (match eZ P e, pI P e, ko P e with | some n, some by_, some z => (match decide (z.length = n) with | true => ki H nid n by_ s x | false => none) | _, _, _ => none)
   | some (.slice e), some (.int _) => (match eZ P e, pI P e, ko P e with | some n, some by_, some z => sR nid n by_ z s x | _, _, _ => none)
   | _, _ => none)
  | _, _ => none)
 | .copy, [d, x] => (match argTypes[0]? with
  | some t => (match P.underlying t with
   | some (.slice e) => (match eZ P e with | some n => vR H n d x | none => none)
   | _ => none)
  | none => none)
 | .clear, [d] => (match argTypes[0]? with
  | some t => (match P.underlying t with
   | some (.slice e) => (match eZ P e, ko P e with | some n, some z => rW H n z d | _, _ => none)
   | _ => none)
  | none => none)
 | .cap, args => (match zk args with | some vs => (match gI P (Builtin.cap_ argTypes type vs.toArray) with | some r => some (.pure (.at r)) | none => none) | none => none)
 | .min, args => (match zk args with | some vs => (match gI P (Builtin.min_ argTypes type vs.toArray) with | some r => some (.pure (.at r)) | none => none) | none => none)
 | .max, args => (match zk args with | some vs => (match gI P (Builtin.max_ argTypes type vs.toArray) with | some r => some (.pure (.at r)) | none => none) | none => none)
 | _, _ => none
def qX (P : Program) : List Field -> Option (List (Nat × Nat))
 | [] => some []
 | f :: j => match eZ P f.type, qX P j with | some n, some l => some ((f.offset, n) :: l) | _, _ => none
def vG (P : Program) (f : FuncId) : Bool := match P.funcs[f]? with | some fn => fn.body.isSome | none => false
def vO (ρ : Operand -> AV) (c : Operand) (a : Operand) (b : Operand) : Option bs :=
 (match ρ c with | .at (.bool t) => some (.pure (Dc t (ρ a) (ρ b))) | _ => none)
def qJ (P : Program) (nid : Nat) (t : TypeId) : Option bs :=
 (match ko P t with
  | some z => (match z.all fI with | true => some (.eff (.hp nid 0) [(nid, .own z)]) | false => none)
  | none => none)
def xh (ρ : Operand -> AV) (nid : Nat) (x : Operand) : Option bs :=
 (match (cellsOf (ρ x)).all fI with | true => some (.eff (.hp nid 0) [(nid, .own (cellsOf (ρ x)))]) | false => none)
def sC (P : Program) (ρ : Operand -> AV) (t : TypeId) (parts : Array (Nat × Operand)) : Option bs :=
 (match ko P t, P.underlying t with
  | some z, some (.struct j) => (match qX P j.toList with
   | some pl => (match z.all fI with | true => (match ry (fun i => pl[i]?) z (parts.toList.map fun p => (p.1, ρ p.2)) with | some cs => some (.pure (.agg cs)) | none => none) | false => none)
   | none => none)
  | some z, some (.array _ e) => (match eZ P e with
   | some n => (match z.all fI with | true => (match ry (fun i => some (i * n, n)) z (parts.toList.map fun p => (p.1, ρ p.2)) with | some cs => some (.pure (.agg cs)) | none => none) | false => none)
   | none => none)
  | _, _ => none)
def jf (P : Program) (ρ : Operand -> AV) (nid : Nat) (t : TypeId) (len : Nat) (parts : Array (Nat × Operand)) : Option bs :=
 (match P.underlying t with
  | some (.slice e) => (match eZ P e, ko P e with
   | some n, some z => (match decide (len * n <= 16777216) && decide (z.length = n) && z.all fI with
    | true => (match ry (fun i => some (i * n, n)) (eU z len) (parts.toList.map fun p => (p.1, ρ p.2)) with
     | some cs => some (.eff (.hs nid 0 len n) [(nid, .own cs)]) | none => none)
    | false => none)
   | _, _ => none)
  | _ => none)
def tb (P : Program) (ρ : Operand -> AV) (H : List Blk) (t : TypeId) (a : Operand) (x : Operand) : Option bs :=
 (match yx P H t (ρ a) (ρ x) with | some ws => some (.eff .unk ws) | none => none)
def nk (ρ : Operand -> AV) (x : Operand) : Option bs :=
 (match ρ x with | .hp b off => some (.pure (.hp b off)) | .pp cs off => some (.pure (.pp cs off)) | .fn f a c => some (.pure (.fn f a c)) | _ => none)
def og (P : Program) (ρ : Operand -> AV) (src : TypeId) (dst : TypeId) (x : Operand) : Option bs :=
 (match DW P src dst (ρ x) with | some v => some (.pure (.at v)) | none => DZ (fun v => gI P (convert src dst v)) (ρ x))
def jM (P : Program) (ρ : Operand -> AV) (nid : Nat) (t : TypeId) (l : Operand) (c : Operand) : Option bs :=
 (match P.underlying t, zT (ρ l), zT (ρ c) with
  | some (.slice e), some (_, l), some (_, c) => (match eZ P e, pI P e, ko P e with
   | some n, some by_, some z => (match decide (0 <= l) && decide (l <= c) && decide ((by_ : Int) * c <= 281474976710656) && decide (c <= 9223372036854775807) && decide (z.length = n) && decide (0 < n) && z.all fI with
    | true => some (.eff (.hs nid 0 l.toNat n) [(nid, .own (eU z c.toNat))])
    | false => none)
   | _, _, _ => none)
  | _, _, _ => none)
def sB (P : Program) (ρ : Operand -> AV) (H : List Blk) (t : TypeId) (x : Operand) (j : Option Operand) (hi : Option Operand) : Option bs :=
 (match ρ x with
  | .at (.string s) => (match (match j with | none => some none | some a => (toV (ρ a)).map some), (match hi with | none => some none | some a => (toV (ρ a)).map some) with
   | some l, some h => (match gI P (Instr.sliceAt t (.string s) l h none) with | some r => some (.pure (.at r)) | none => none)
   | _, _ => none)
  | y => bs.ofP (uf P H t y (j.map ρ) (hi.map ρ)))
def tp (P : Program) (ρ : Operand -> AV) (H : List Blk) (nid : Nat) (c : Call) (j : TypeId) : Option bs :=
 (match c.callee with
  | .value f => (match ρ f with
   | .fn g m cs => (match vG P g with | true => some (.call g (m ++ c.args.toList.map ρ ++ cs)) | false => none)
   | _ => none)
  | .builtin b => lC P H nid b c.argTypes j (c.args.toList.map ρ)
  | _ => none)
def ph : List Value -> List Value -> Option Bool
 | [], [] => some true
 | .int k x :: l, .int k' y :: j => (match IntKind.rO k k', ph l j with | true, some r => some (x == y && r) | _, _ => none)
 | _, _ => none
def kEq : Value -> Value -> Option Bool
 | .agg a, .agg b => ph a.toList b.toList
 | .int k x, .int k' y => (match IntKind.rO k k' with | true => some (x == y) | false => none)
 | .bool x, .bool y => some (x == y)
 | _, _ => none
def nY (P : Program) (e : TypeId) : Bool := match P.underlying e, eZ P e with | some (.int _), some n => Nat.beq n 1 | _, _ => false
def tM (P : Program) : List Field -> Nat -> Bool
 | [], _ => true
 | f :: j, i => !decide (f.name = "_") && Nat.beq f.offset i && nY P f.type && tM P j (i + 1)
def sZ : List Value -> Bool | [] => true | .int .. :: l => sZ l | _ => false
def mw (P : Program) (t : TypeId) (a : Array Value) : Bool := match P.underlying t with
 | some (.array n e) => nY P e && Nat.beq a.size n && sZ a.toList
 | some (.struct j) => tM P j.toList 0 && Nat.beq a.size j.toList.length && sZ a.toList && !P.stoodInHeld t
 | _ => false
def iI (P : Program) (t : TypeId) (v : Value) : Bool := match P.underlying t, v with | some (.int k), .int k' _ => IntKind.rO k k' | some .bool, .bool _ => true | some _, .agg a => mw P t a | _, _ => false
def jX (k : Value) : List (Value × AV) -> Nat -> Option (Option (Nat × AV))
 | [], _ => some none
 | (k', A) :: es, i => (match kEq k k' with | some true => some (some (i, A)) | some false => jX k es (i + 1) | none => none)
def xg (P : Program) (e : TypeId) : Option AV := match P.info? e with | some i => (match i.zero with | some (.agg a) => some (.agg (a.toList.map .at)) | some v => some (.at v) | none => none) | none => none
def jk (H : List Blk) (x : AV) : Option (Nat × List (Value × AV)) := match x with | .mp b => (match H[b]? with | some (.map es) => some (b, es) | _ => none) | _ => none
def eN (P : Program) (H : List Blk) (t : TypeId) (x j : AV) (ok : Bool) : Option AV :=
 match P.underlying t, jk H x, toV j with
 | some (.map kt e), some (_, es), some k => (match iI P kt k, xg P e, jX k es 0 with
  | true, some _, some (some (_, A)) => some (match ok with | true => .tup [A, .at (.bool true)] | false => A)
  | true, some z, some none => some (match ok with | true => .tup [z, .at (.bool false)] | false => z)
  | _, _, _ => none)
 | _, _, _ => none
def gO (P : Program) (H : List Blk) (t : TypeId) (m k v : AV) : Option bs :=
 match P.underlying t, jk H m, toV k with
 | some (.map kt _), some (b, es), some k => (match iI P kt k, jX k es 0 with
  | true, some (some (i, _)) => some (.eff .unk [(b, .map (es.set i (k, v)))])
  | true, some none => some (.eff .unk [(b, .map (es ++ [(k, v)]))])
  | _, _ => none)
 | _, _, _ => none
def lB (P : Program) (H : List Blk) (t : TypeId) (m k : AV) : Option bs :=
 match P.underlying t, jk H m, toV k with
 | some (.map kt e), some (b, es), some k => (match iI P kt k, xg P e, jX k es 0 with
  | true, some _, some (some (i, A)) => some (.eff (.tup [A, .at (.int .i64 i)]) [(b, .map (es.set i (k, A)))])
  | true, some z, some none => some (.eff (.tup [z, .at (.int .i64 es.length)]) [(b, .map (es ++ [(k, z)]))])
  | _, _, _ => none)
 | _, _, _ => none
def km (H : List Blk) (m s v : AV) : Option bs :=
 match jk H m, AN s with
 | some (b, es), some i => (match decide (0 <= i), es[i.toNat]? with | true, some (k, _) => some (.eff .unk [(b, .map (es.set i.toNat (k, v)))]) | _, _ => none)
 | _, _ => none
def oC (P : Program) (nid : Nat) (t : TypeId) (r : Option AV) : Option bs :=
 match r with
 | none => some (.eff (.mp nid) [(nid, .map [])])
 | some r => (match zT r, P.underlying t with | some _, some (.map _ _) => some (.eff (.mp nid) [(nid, .map [])]) | _, _ => none)
def qa (H : List Blk) (x : AV) : Option (Nat × Nat × List Nat) := match x with | .hp j 0 => (match H[j]? with | some (.iter m n seen) => some (m, n, seen) | _ => none) | _ => none
def GG : Value -> AV | .agg a => .agg (a.toList.map .at) | v => .at v
def my (P : Program) (H : List Blk) (nid : Nat) (t : TypeId) (x : AV) : Option bs :=
 match P.underlying t, jk H x with
 | some (.map _ _), some (b, es) => some (.eff (.hp nid 0) [(nid, .iter b es.length [])])
 | _, _ => none
def hU (H : List Blk) (x : AV) : Option bs :=
 match qa H x with
 | some (m, n, seen) => (match H[m]? with
  | some (.map es) => (match decide (es.length = n), seen.getLast? with
   | true, some i => (match es[i]? with | some (k, A) => some (.pure (.tup [GG k, A])) | none => none)
   | _, _ => none)
  | _ => none)
 | none => none
def lE (P : Program) (ρ : Operand -> AV) (H : List Blk) (nid : Nat) (op : Op) : Option bs :=
 match op with
 | .makeMap t r => oC P nid t (r.map ρ)
 | .lookup t x j ok => bs.ofP (eN P H t (ρ x) (ρ j) ok)
 | .mapUpdate t m k x => gO P H t (ρ m) (ρ k) (ρ x)
 | .insert t m k x => gO P H t (ρ m) (ρ k) (ρ x)
 | .mapEntry t m k => lB P H t (ρ m) (ρ k)
 | .entryStore _ m s x => km H (ρ m) (ρ s) (ρ x)
 | .range t x => my P H nid t (ρ x)
 | .entry it => hU H (ρ it)
 | _ => none
def evalOp (P : Program) (ρ : Operand -> AV) (H : List Blk) (nid : Nat) (o : Oper) : Option bs :=
 match o.op with
 | .move x => some (.pure (ρ x))
 | .assign x => some (.pure (ρ x))
 | .pick c a b => vO ρ c a b
 | .alloc t => qJ P nid t
 | .box _ x => xh ρ nid x
 | .build t parts => sC P ρ t parts
 | .buildSlice t len parts => jf P ρ nid t len parts
 | .load t a => bs.ofP (xb P H t (ρ a))
 | .store t a x => tb P ρ H t a x
 | .nilCheck x => nk ρ x
 | .binOp op t x y _ => bs.ofP (tj P op t x y (ρ x) (ρ y))
 | .unOp op _ x => DZ (fun v => gI P (Op.unary op v)) (ρ x)
 | .convert src dst x => og P ρ src dst x
 | .makeFunc (.func f) m cs => some (.pure (.fn f (m.toList.map ρ) (cs.toList.map ρ)))
 | .makeSlice t l c => jM P ρ nid t l c
 | .slice t x q hi none => sB P ρ H t x q hi
 | .fieldAddr s x f => bs.ofP (rV P s (ρ x) f)
 | .field s x f => bs.ofP (Bf P s (ρ x) f)
 | .indexAddr t x j => bs.ofP (rP P t (ρ x) (ρ j))
 | .index t x j => bs.ofP (Az P t (ρ x) (ρ j))
 | .extract t j => (match ρ t with | .tup vs => bs.ofP vs[j]? | _ => none)
 | .call c => tp P ρ H nid c o.type
 | op => lE P ρ H nid op
def dG : AV -> List Nat
 | .hp i _ => [i]
 | .hs i _ _ _ => [i]
 | .mp i => [i]
 | _ => []
def oO (H : List Blk) (ρ : Operand -> AV) (o : Oper) : List Nat :=
 match o.op with
 | .load _ a => dG (ρ a)
 | .store _ a _ => dG (ρ a)
 | .slice _ x _ _ _ => dG (ρ x)
 | .lookup _ x _ _ => dG (ρ x)
 | .mapUpdate _ m _ _ => dG (ρ m)
 | .insert _ m _ _ => dG (ρ m)
 | .mapEntry _ m _ => dG (ρ m)
 | .entryStore _ m _ _ => dG (ρ m)
 | .range _ x => dG (ρ x)
 | .entry it => dG (ρ it) ++ (match qa H (ρ it) with | some (m, _, _) => [m] | none => [])
 | .call c => c.args.toList.flatMap fun x => dG (ρ x)
 | _ => []
end Go.Eng


namespace Go.Eng
open Go Go.RowKit
variable [Dr]
theorem bO {P : Program} {t : TypeId} {n : Nat} (h : eZ P t = some n) (w : World) : (sizeOf t).run P w = .ok n w := by
 unfold eZ at h
 split at h
 · rename_i i hi; cases h; simp [sizeOf, typeInfo, hi]
 · cases h
theorem uW {P : Program} {t : TypeId} {b : Bool} (h : Ct P t = some b) (w : World) : (isAgg t).run P w = .ok b w := by
 unfold Ct at h
 cases hd : P.underlying t with
 | none => simp [hd] at h
 | some d => cases d <;> simp [hd] at h <;> subst h <;> simp [isAgg, run_underlying hd]
theorem qv {P : Program} {t : TypeId} {z : List AV} (h : ko P t = some z) (w : World) : ∃ j i, P.info? t = some i /\ i.zero = some j /\ (zeroValue t).run P w = .ok j w /\ z = j.cells.toList.map .at := by
 unfold ko at h
 split at h
 · rename_i i hi
   split at h
   · rename_i j m; cases h; exact ⟨j, i, hi, m, by simp [zeroValue, typeInfo, hi, m], rfl⟩
   · cases h
 · cases h
theorem gR (b o n : Nat) : (⟨b, o, none⟩ : Addr).add n = ⟨b, o + n, none⟩ := by unfold Addr.add; split <;> simp_all
section
variable {P : Program} {out : Nat -> Prop} {B : Nat -> Prop} {w : World} {π : List (Option PB)} {H : List Blk}
theorem fC (j : Inv out B w π H) {i : Nat} {p : PB} {cs : List AV} (m : H[i]? = some (.own cs) \/ H[i]? = some (.fix cs)) (hp : π[i]? = some (some p)) : RvC w (aJ out π H) π cs p.blk p.off := by
 rcases m with h | h
 · exact (j.ok i _ p h hp).2
 · exact j.ok i _ p h hp
theorem pK (j : Inv out B w π H) {a : AV} {v : Value} {cs : List AV} (m : Rv w (aJ out π H) π a v) (h : mF H a = some cs) :
  ∃ b o, v = .pointer (some ⟨b, o, none⟩) /\ RvC w (aJ out π H) π cs b o := by
 unfold mF at h
 split at h
 · rename_i i off
   obtain ⟨p, hp, rfl⟩ := m
   split at h
   · rename_i c hc; cases h; exact ⟨_, _, rfl, RvC.drop off c _ _ (fC j (.inl hc) hp)⟩
   · rename_i c hc; cases h; exact ⟨_, _, rfl, RvC.drop off c _ _ (fC j (.inr hc) hp)⟩
   · cases h
 · rename_i c off
   cases h
   obtain ⟨b, o, rfl, _, q⟩ := m
   exact ⟨_, _, rfl, RvC.drop off c _ _ q.lift⟩
 · cases h
theorem sV (j : Inv out B w π H) {a : AV} {v : Value} {A : AV} (m : Rv w (aJ out π H) π a v) (h : cellAt H a = some A) :
  ∃ q u, v = .pointer (some q) /\ w.cell? q = some u /\ Rv w (aJ out π H) π A u := by
 unfold cellAt at h
 split at h
 · rename_i i off
   obtain ⟨p, hp, rfl⟩ := m
   split at h
   · rename_i c hc
     obtain ⟨u, h1, _, h2⟩ := RvC.get c _ _ off A (fC j (.inl hc) hp) h
     exact ⟨_, u, rfl, h1, h2⟩
   · rename_i c hc
     obtain ⟨u, h1, _, h2⟩ := RvC.get c _ _ off A (fC j (.inr hc) hp) h
     exact ⟨_, u, rfl, h1, h2⟩
   · cases h
 · rename_i c off
   obtain ⟨b, o, rfl, _, z⟩ := m
   obtain ⟨u, h1, _, h2⟩ := RvC.get c _ _ off A z.lift h
   exact ⟨_, u, rfl, h1, h2⟩
 · cases h
theorem qP {mu : Nat -> Prop} {cs : List AV} {b o n : Nat} (h : RvC w mu π cs b o) (C : n <= cs.length) :
  ∃ vs : List Value, vs.length = n /\ RvL w mu π (cs.take n) vs /\ (∀ v ∈ vs, v.oneCell' = true) /\ (∀ j v, vs[j]? = some v -> w.cell? ((⟨b, o, none⟩ : Addr).add j) = some v) := by
 obtain ⟨vs, h1, h2, m, q⟩ := RvC.list (cs.take n) b o (RvC.take n cs b o h)
 refine ⟨vs, by simp [h1]; omega, h2, m, fun j v z => ?_⟩
 rw [gR]; exact q j v z
theorem uH (q : Inv out B w π H) {t : TypeId} {a : AV} {v : Value} {A : AV} (z : Rv w (aJ out π H) π a v) (h : xb P H t a = some A) :
  ∃ u, (Instr.loadAt t v).run P w = .ok u w /\ Rv w (aJ out π H) π A u := by
 unfold xb at h
 split at h
 · rename_i j
   split at h
   · rename_i n cs D m
     split at h
     · rename_i hle
       cases h
       obtain ⟨b, o, rfl, hc⟩ := pK q z m
       obtain ⟨vs, h1, h2, _, E⟩ := qP hc (by simpa using hle)
       refine ⟨.agg vs.toArray, ?_, ⟨vs.toArray, rfl, h2⟩⟩
       have C := run_loadCells_list (P := P) w ⟨b, o, none⟩ vs E
       rw [h1] at C
       simp [Instr.loadAt, Instr.sureAddr, loadVar, uW j, bO D, C]
     · cases h
   · cases h
 · rename_i j
   obtain ⟨I, u, rfl, h1, h2⟩ := sV q z h
   exact ⟨u, by simp [Instr.loadAt, Instr.sureAddr, loadVar, uW j, h1], h2⟩
 · cases h
theorem nE {i : Nat} {p : PB} (hp : π[i]? = some (some p)) : ∀ (xs : List AV) (vs : List Value) (k off : Nat) (cs : List AV) (w : World) (H : List Blk), Inv out B w π H -> H[i]? = some (.own cs) ->
  RvL w (aJ out π H) π xs vs -> (∀ v ∈ vs, v.oneCell' = true) -> off + k + xs.length <= cs.length ->
  ∃ w', (storeCells ⟨p.blk, p.off + off, none⟩ vs k).run P w = .ok () w' /\ Ext B w w' (aJ out π H) (aJ out π (H.set i (.own (setCells cs (off + k) xs)))) π π /\ Inv out B w' π (H.set i (.own (setCells cs (off + k) xs)))
 | [], vs, k, off, cs, w, H, N, z, O, _, _ => by
  cases O
  have he : H.set i (.own (setCells cs (off + k) [])) = H := by
   apply List.ext_getElem?
   intro j
   rw [List.getElem?_set]
   split
   · rename_i T; subst T; rw [if_pos (aT z)]; exact z.symm
   · rfl
  rw [he]
  exact ⟨w, rfl, Ext.refl _ _ _, N⟩
 | x :: xs, vs, k, off, cs, w, H, N, z, O, h1, hl => by
  obtain ⟨v, D, rfl, hx, U⟩ := O
  have hlen : off + k < cs.length := by simp at hl; omega
  obtain ⟨⟨c, e, m, Y⟩, hC⟩ := N.ok i _ p z hp
  have hb := RvC.bound hC m (by intro e0; subst e0; simp at hlen)
  obtain ⟨u, hu, _, _⟩ := RvC.get cs _ _ (off + k) cs[off + k] hC (List.getElem?_eq_getElem hlen)
  have E : w.frozen? ⟨p.blk, p.off + (off + k), none⟩ = false := by simp [World.frozen?, m]
  have a0 : (store ((⟨p.blk, p.off + off, none⟩ : Addr).add k) v).run P w = .ok () (w.setCell ⟨p.blk, p.off + (off + k), none⟩ v) := by
   rw [gR, show p.off + off + k = p.off + (off + k) by omega, run_store P w _ v _ (h1 v (by simp)), hu]
   simp [E]
  have q := Inv.tG N z hp rfl (.own (cs.set (off + k) x)) (w' := w.setCell ⟨p.blk, p.off + (off + k), none⟩ v) (by simp) (fun b hb => Below.heap_setCell w _ v b hb) rfl rfl rfl (fun _ => Nat.le_refl _) (fun I => by
   refine ⟨?_, ?_⟩
   · refine ⟨c.setIfInBounds (p.off + (off + k)) v, e, ?_, by simpa using Y⟩
     simp [World.setCell, Array.getElem?_modify, m]
   · obtain ⟨us, g1, g2, g3, g4⟩ := RvC.list cs _ _ hC
     refine jP (cs.set (off + k) x) (us.set (off + k) v) _ _ (RvL.set cs us _ x v (RvL.ext I cs us g2) (Rv.ext I x v hx)) ?_ ?_
     · intro y J
       rcases List.mem_or_eq_of_mem_set J with J | rfl
       · exact g3 y J
       · exact h1 _ (by simp)
     · intro j y C
       rw [List.getElem?_set] at C
       split at C
       · rename_i M
         subst M
         split at C
         · cases C; exact World.cell?_setCell_same w _ _ hu
         · cases C
       · rename_i M
         rw [World.cell?_setCell_other w _ _ _ (by intro e0; injection e0 with e1 e2; omega)]
         exact g4 j y C)
  obtain ⟨I, a1⟩ := q
  obtain ⟨w', r1, r2, r3⟩ := nE hp xs D (k + 1) off (cs.set (off + k) x) (w.setCell ⟨p.blk, p.off + (off + k), none⟩ v) (H.set i (.own (cs.set (off + k) x))) a1 (by
    rw [List.getElem?_set, if_pos rfl, if_pos (aT z)]) (RvL.ext I xs D U) (fun y J => h1 y (by simp [J])) (by simp at hl ⊢; omega)
  refine ⟨w', by simp only [storeCells, Sem.run_bind, a0, Result.andThen_ok, r1], ?_, ?_⟩
  · rw [List.set_set] at r2
    exact I.trans (by simpa [setCells, Nat.add_assoc] using r2)
  · rw [List.set_set] at r3
    simpa [setCells, Nat.add_assoc] using r3
theorem x5 (C : Inv out B w π H) {t : TypeId} {a x : AV} {q j : Value} {ws : List (Nat × Blk)} (ha : Rv w (aJ out π H) π a q) (hx : Rv w (aJ out π H) π x j) (h : yx P H t a x = some ws) :
  ∃ w', (Instr.storeAt t q j).run P w = .ok () w' /\ Ext B w w' (aJ out π H) (aJ out π (aM H ws)) π π /\ Inv out B w' π (aM H ws) := by
 unfold yx at h
 split at h
 · rename_i i off
   obtain ⟨p, hp, rfl⟩ := ha
   split at h
   · rename_i cs n z D
     split at h
     · rename_i hc
       cases h
       simp only [Bool.and_eq_true, decide_eq_true_eq] at hc
       obtain ⟨h1, h2⟩ := nO hx hc.2
       have E := RvL.length _ _ h1
       obtain ⟨w', r1, r2, r3⟩ := nE (P := P) hp (cellsOf x) j.cells.toList 0 off cs w H C z h1 h2 (by omega)
       have hu : aM H [(i, .own (setCells cs off (cellsOf x)))] = H.set i (.own (setCells cs off (cellsOf x))) := by simp [aM, upd, aT z]
       rw [Nat.add_zero] at r2 r3
       refine ⟨w', ?_, by rw [hu]; exact r2, by rw [hu]; exact r3⟩
       have m : j.cells.size = n := by rw [<- Array.length_toList, E, hc.1.1]
       simp [Instr.storeAt, Instr.sureAddr, storeVar, bO D, m, r1]
     · cases h
   · cases h
 · cases h
end
def y8 : List Value -> Nat -> List Value -> List Value
 | l, _, [] => l
 | l, off, x :: xs => y8 (l.set off x) (off + 1) xs
theorem sS {mu : Nat -> Prop} {π : List (Option PB)} {w : World} : ∀ (xs : List AV) (vs : List Value) (cs : List AV) (us : List Value) (off : Nat), RvL w mu π xs vs -> RvL w mu π cs us -> RvL w mu π (setCells cs off xs) (y8 us off vs)
 | [], vs, cs, us, off, h, k => by cases h; exact k
 | x :: xs, vs, cs, us, off, h, k => by
  obtain ⟨v, j, rfl, h1, h2⟩ := h
  exact sS xs j _ _ _ h2 (RvL.set cs us off x v k h1)
theorem uA : ∀ (vs us : List Value) (off : Nat), (y8 us off vs).length = us.length
 | [], _, _ => rfl
 | v :: vs, us, off => by simp [y8, uA vs]
theorem zR {x : Value} : ∀ (vs us : List Value) (off : Nat), x ∈ y8 us off vs -> x ∈ us \/ x ∈ vs
 | [], _, _, h => .inl h
 | v :: vs, us, off, h => by
  rcases zR vs _ _ h with h | h
  · rcases List.mem_or_eq_of_mem_set h with h | rfl
    · exact .inl h
    · exact .inr (by simp)
  · exact .inr (by simp [h])
theorem vE (off : Nat) : ∀ (l : List Value) (k : Nat) (cells : Array Value),
  ((l.zipIdx k).foldl (fun (cs : Array Value) (p : Value × Nat) => cs.setIfInBounds (off + p.2) p.1) cells).toList = y8 cells.toList (off + k) l
 | [], _, _ => rfl
 | v :: l, k, cells => by
  simp only [List.zipIdx_cons, List.foldl_cons, y8]
  rw [vE off l (k + 1)]
  simp [Nat.add_assoc]
theorem uh (off : Nat) (v : Value) (cells : Array Value) :
  (v.cells.zipIdx.foldl (fun (cs : Array Value) (p : Value × Nat) => cs.setIfInBounds (off + p.2) p.1) cells).toList = y8 cells.toList off v.cells.toList := by
 rw [<- Array.foldl_toList, Array.toList_zipIdx]
 exact vE off v.cells.toList 0 cells
theorem nv {mu : Nat -> Prop} {π : List (Option PB)} {w : World} {place : Nat -> Option (Nat × Nat)} : ∀ (ps : List (Nat × AV)) (m : List (Nat × Value)) (cs : List AV) (z : Array Value) (r : List AV),
  ps.map (·.1) = m.map (·.1) -> RvL w mu π (ps.map (·.2)) (m.map (·.2)) -> RvL w mu π cs z.toList -> (∀ v ∈ z.toList, v.oneCell' = true) -> ry place cs ps = some r ->
  ∃ D, Instr.fill place z m = some D /\ RvL w mu π r D.toList /\ D.size = z.size /\ (∀ v ∈ D.toList, v.oneCell' = true)
 | [], m, cs, z, r, h1, _, I, J, C => by
  cases m with
  | nil => simp [ry] at C; subst C; exact ⟨z, rfl, I, rfl, J⟩
  | cons q m => simp at h1
 | (i, x) :: ps, m, cs, z, r, h1, h2, I, J, C => by
  cases m with
  | nil => simp at h1
  | cons q m =>
   obtain ⟨j, v⟩ := q
   simp only [List.map_cons, List.cons.injEq] at h1
   obtain ⟨rfl, h1⟩ := h1
   obtain ⟨v', T, e, hx, M⟩ := h2
   simp only [List.map_cons, List.cons.injEq] at e
   obtain ⟨rfl, rfl⟩ := e
   unfold ry at C
   unfold Instr.fill
   split at C
   · cases C
   · rename_i off size N
     split at C
     · rename_i hc
       simp only [Bool.and_eq_true, decide_eq_true_eq] at hc
       obtain ⟨g1, U⟩ := nO hx hc.2
       have Y := RvL.length _ _ g1
       have O := RvL.length _ _ I
       simp only [Array.length_toList] at Y O
       have e1 : v.cells.size = size := by omega
       have e2 : ¬ z.size < off + v.cells.size := by omega
       obtain ⟨D, r1, r2, r3, r4⟩ := nv ps m (setCells cs off (cellsOf x)) (v.cells.zipIdx.foldl (fun (cs : Array Value) (p : Value × Nat) => cs.setIfInBounds (off + p.2) p.1) z) r h1 M (by
         rw [uh]; exact sS _ _ _ _ _ g1 I) (by
         rw [uh]; intro y E
         rcases zR _ _ _ E with E | E
         · exact J y E
         · exact U y E) C
       refine ⟨D, ?_, r2, ?_, r4⟩
       · simp only [N]
         rw [if_neg (by simp [e1]; omega)]
         exact r1
       · rw [r3, <- Array.length_toList, uh, uA, Array.length_toList]
     · cases C
theorem rv {P : Program} (w : World) : ∀ (j : List Field) (pl : List (Nat × Nat)), qX P j = some pl -> (j.mapM (m := Sem) fun f => do pure (f.offset, <- sizeOf f.type)).run P w = .ok pl w
 | [], pl, h => by simp [qX] at h; subst h; simp
 | f :: j, pl, h => by
  unfold qX at h
  split at h
  · rename_i n l q z
    cases h
    have C := rv w j l z
    simp only [List.mapM_cons, Sem.run_bind, bO q, Result.andThen_ok, Sem.run_pure, C]
  · cases h
theorem qM {mu : Nat -> Prop} {π : List (Option PB)} {w : World} (z : List Value) : ∀ n : Nat, RvL w mu π (eU (z.map .at) n) ((List.replicate n z).flatten)
 | 0 => rfl
 | n + 1 => by
  simp only [eU, List.replicate_succ, List.flatten_cons]
  exact RvL.append _ _ _ _ (fm z) (qM z n)
theorem GL {mu : Nat -> Prop} {π : List (Option PB)} {w : World} {a : AV} {v : Value} (h : Rv w mu π a v) : Rv w mu π (wkN a) v := by
 unfold wkN
 split
 · exact .inl ⟨rfl, rfl, rfl, h⟩
 · exact h
theorem Cd {mu : Nat -> Prop} {π : List (Option PB)} {w : World} : ∀ (as : List AV) (vs : List Value), RvL w mu π as vs -> RvL w mu π (as.map wkN) vs
 | [], _, h => h
 | a :: as, _, ⟨v, j, h1, h2, m⟩ => ⟨v, j, h1, GL h2, Cd as j m⟩
theorem vq {mu : Nat -> Prop} {π : List (Option PB)} {w : World} (z : List Value) : ∀ n : Nat, RvL w mu π (eU ((z.map .at).map wkN) n) ((List.replicate n z).flatten)
 | 0 => rfl
 | n + 1 => by
  simp only [eU, List.replicate_succ, List.flatten_cons]
  exact RvL.append _ _ _ _ (Cd _ _ (fm z)) (vq z n)
theorem kz (z : List Value) (q : 0 < z.length) : ∀ (n j : Nat), j < n * z.length -> ((List.replicate n z).flatten)[j]? = z[j % z.length]?
 | 0, j, h => by simp at h
 | n + 1, j, h => by
  simp only [List.replicate_succ, List.flatten_cons]
  by_cases m : j < z.length
  · rw [List.getElem?_append_left m, Nat.mod_eq_of_lt m]
  · rw [List.getElem?_append_right (by omega), kz z q n (j - z.length) (by rw [Nat.add_mul, Nat.one_mul] at h; omega)]
    congr 1
    rw [<- Nat.mod_eq_sub_mod (by omega)]
theorem kf (z : Array Value) (n : Nat) (m : 0 < z.size) : (madeCells z (n * z.size)).toList = (List.replicate n z.toList).flatten := by
 apply List.ext_getElem?
 intro j
 by_cases q : j < n * z.size
 · rw [kz z.toList (by simpa using m) n j (by simpa using q)]
   simp [madeCells, q, Nat.mod_lt _ m, getElem!_pos]
 · rw [List.getElem?_eq_none (by simp [madeCells]; omega), List.getElem?_eq_none (by simp; omega)]
theorem all_zero {z : List Value} (h : (z.map AV.at).all fI = true) : ∀ v ∈ z, v.oneCell' = true := by
 simpa [fI, List.all_map] using h
theorem jB {z : List Value} (h : ∀ v ∈ z, v.oneCell' = true) (n : Nat) : ∀ v ∈ (List.replicate n z).flatten, v.oneCell' = true := by
 intro v j
 simp only [List.mem_flatten, List.mem_replicate] at j
 obtain ⟨l, ⟨_, rfl⟩, j⟩ := j
 exact h v j
section
variable {P : Program} {out : Nat -> Prop} {B : Nat -> Prop} {w : World} {π : List (Option PB)} {H : List Blk}
theorem sW (z : Inv out B w π H) {n : Nat} (C : n <= H.length) (D : ∀ q, π[n]? ≠ some (some q)) (cs : List AV) (vs : Array Value) (e : TypeId) (h : RvL w (aJ out π H) π cs (vs.toList.take cs.length)) (h1 : ∀ v ∈ vs.toList.take cs.length, v.oneCell' = true) :
  Ext B w (w.alloc (.cells vs e)) (aJ out π H) (aJ out (upd π n (some ⟨w.heap.size, 0, vs.size⟩)) (aM H [(n, .own cs)])) π (upd π n (some ⟨w.heap.size, 0, vs.size⟩)) /\
  Inv out B (w.alloc (.cells vs e)) (upd π n (some ⟨w.heap.size, 0, vs.size⟩)) (aM H [(n, .own cs)]) := by
 have E := q9 z (.cells vs e) (.own cs) ⟨w.heap.size, 0, vs.size⟩ rfl C D
 refine ⟨E, z.alloc _ _ _ rfl C D ⟨⟨vs, e, (by show (w.heap.push _)[w.heap.size]? = _; simp), rfl⟩, ?_⟩⟩
 refine jP cs (vs.toList.take cs.length) _ _ (RvL.ext E _ _ h) h1 fun j v m => ?_
 rw [Nat.zero_add, World.cell?_alloc_new]
 rw [List.getElem?_take] at m
 split at m
 · simpa using m
 · cases m
theorem lR (m : Inv out B w π H) {n : Nat} (z : n <= H.length) (C : ∀ q, π[n]? ≠ some (some q)) (cs : List AV) (vs : Array Value) (e : TypeId) (h : RvL w (aJ out π H) π cs vs.toList) (h1 : ∀ v ∈ vs.toList, v.oneCell' = true) :
  Ext B w (w.alloc (.cells vs e)) (aJ out π H) (aJ out (upd π n (some ⟨w.heap.size, 0, vs.size⟩)) (aM H [(n, .own cs)])) π (upd π n (some ⟨w.heap.size, 0, vs.size⟩)) /\
  Inv out B (w.alloc (.cells vs e)) (upd π n (some ⟨w.heap.size, 0, vs.size⟩)) (aM H [(n, .own cs)]) := by
 have D := RvL.length _ _ h
 have j : vs.toList.take cs.length = vs.toList := by rw [<- D, List.take_length]
 exact sW m z C cs vs e (by rw [j]; exact h) (by rw [j]; exact h1)
theorem je (j : Inv out B w π H) {n : Nat} (m : n <= H.length) (p : PB) : (upd π n (some p))[n]? = some (some p) := by rw [fb (by have := j.len; omega), if_pos rfl]
end
end Go.Eng
namespace Go
theorem lbT {n m : Nat} (h : Nat.ble n m = true) : n <= m := Nat.le_of_ble_eq_true h
theorem dcT {p : Prop} [Decidable p] (h : decide p = true) : p := of_decide_eq_true h
theorem dcF {p : Prop} [Decidable p] (h : decide p = false) : ¬ p := of_decide_eq_false h
theorem mrT {a b c : Int} (h : a <= b) (k : 0 <= c) : a * c <= b * c := Int.mul_le_mul_of_nonneg_right h k
theorem mlT {a b c : Int} (h : a <= b) (k : 0 <= c) : c * a <= c * b := Int.mul_le_mul_of_nonneg_left h k
theorem geT {α : Type _} {l : List α} {i : Nat} (h : i < l.length) : l[i]? = some l[i] := List.getElem?_eq_getElem h
end Go
