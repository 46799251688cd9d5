import Derived.Calls
import Derived.Below
import Derived.LoopN
import Derived.Orders
import Derived.Laws.Append
import Derived.Laws.AppendOwn
import Derived.Laws.MakeOwn
import Derived.Laws.CopyRow
import Derived.Laws.Cells
import Derived.Laws.Build
import Derived.Laws.StructEq
import Derived.Laws.Rows
import Derived.Laws.Bits64
import Derived.Laws.BitsLemmas
set_option linter.all false
namespace Go.Eng
open Go
class Dr where d : Bool
variable [Dr]
inductive AV where
 | unk
 | at (v : Value)
 | sl (nl : Bool) (cs : List AV) (len : Nat)
 | pp (cs : List AV) (off : Nat)
 | hs (b off len es : Nat)
 | hc (b off len cap es : Nat)
 | hp (b off : Nat)
 | mp (b : Nat)
 | agg (cs : List AV)
 | tup (cs : List AV)
 | fn (f : FuncId) (fs cs : List AV)
 deriving Inhabited
structure PB where
 blk : Nat
 off : Nat
 size : Nat
 subs : Nat -> Option (Nat × Nat × Nat) := fun _ => none
inductive RC where
 | row (len es : Nat) (cs : List AV)
 | av (A : AV)
 deriving Inhabited
inductive Blk where
 | dead
 | own (cs : List AV)
 | fix (cs : List AV)
 | map (es : List (Value × AV))
 | iter (m n : Nat) (seen : List Nat)
 | rows (rs : List RC)
 | mapr (d ez : Nat) (l : List (Value × RC))
 deriving Inhabited
def Blk.eh : Blk -> Bool | .own _ | .map _ | .iter .. | .rows _ | .mapr .. => true | _ => false
def Blk.isLive : Blk -> Bool | .dead => false | _ => true
def Blk.owns : Blk -> PB -> Nat -> Prop
 | .dead, _, _ => False
 | .rows rs, p, b => p.blk = b \/ ∃ (k len es : Nat) (cs : List AV) (q : Nat × Nat × Nat), rs[k]? = some (.row len es cs) /\ p.subs k = some q /\ q.1 = b
 | .mapr _ _ l, p, b => p.blk = b \/ ∃ (k : Nat) (key : Value) (len es : Nat) (cs : List AV) (q : Nat × Nat × Nat), l[k]? = some (key, .row len es cs) /\ p.subs k = some q /\ q.1 = b
 | _, p, b => p.blk = b
def Blk.plain : Blk -> Bool | .rows _ | .mapr .. => false | _ => true
theorem Blk.iZ {x : Blk} {p : PB} (h : x.isLive = true) : x.owns p p.blk := by
 cases x with
 | dead => cases h
 | rows rs => exact .inl rfl
 | mapr d ez l => exact .inl rfl
 | own cs => exact rfl
 | fix cs => exact rfl
 | map es => exact rfl
 | iter m n s => exact rfl
theorem Blk.ly {x : Blk} {p : PB} {b : Nat} (h : x.plain = true) (ho : x.owns p b) : p.blk = b := by
 cases x with
 | dead => exact ho.elim
 | rows rs => cases h
 | mapr d ez l => cases h
 | own cs => exact ho
 | fix cs => exact ho
 | map es => exact ho
 | iter m n s => exact ho
theorem Blk.cU {x : Blk} {p : PB} {b : Nat} (ho : x.owns p b) : x.isLive = true := by
 cases x with
 | dead => exact ho.elim
 | rows rs => rfl
 | mapr d ez l => rfl
 | own cs => rfl
 | fix cs => rfl
 | map es => rfl
 | iter m n s => rfl
mutual
def Rv (w : World) (mu : Nat -> Prop) (Z : List (Option PB)) : AV -> Value -> Prop
 | .unk, _ => True
 | .at x, v => v = x
 | .sl nl cs len, v => (nl = true /\ len = 0 /\ cs = [] /\ v = .slice none 0 0) \/
   (∃ b o cap, v = .slice (some ⟨b, o, none⟩) len cap /\ len <= cap /\ (cs ≠ [] -> ¬ mu b) /\ RvC w mu [] cs b o) \/ (len = 0 /\ cs = [] /\ ∃ a cap, v = .slice (some a) 0 cap)
 | .pp cs off, v => ∃ b o, v = .pointer (some ⟨b, o + off, none⟩) /\ (cs ≠ [] -> ¬ mu b) /\ RvC w mu [] cs b o
 | .hs i off len es, v => (len = 0 /\ v = .slice none 0 0) \/ ∃ p a cap, Z[i]? = some (some p) /\ v = .slice (some a) len cap /\ len <= cap /\ a.spot = none /\
   (0 < cap -> a = ⟨p.blk, p.off + off, none⟩ /\ p.off + off + cap * es <= p.size)
 | .hc i off len cap es, v => ∃ p a, Z[i]? = some (some p) /\ v = .slice (some a) len cap /\ len <= cap /\ a.spot = none /\
   (0 < cap -> a = ⟨p.blk, p.off + off, none⟩ /\ p.off + off + cap * es <= p.size)
 | .hp i off, v => ∃ p, Z[i]? = some (some p) /\ v = .pointer (some ⟨p.blk, p.off + off, none⟩)
 | .mp i, v => ∃ p, Z[i]? = some (some p) /\ v = .map (some p.blk)
 | .agg cs, v => ∃ vs, v = .agg vs /\ RvL w mu Z cs vs.toList
 | .tup cs, v => ∃ vs, v = .tuple vs /\ RvL w mu Z cs vs.toList
 | .fn f fs cs, v => ∃ a c, v = .func (.func f) a c /\ RvL w mu Z fs a.toList /\ RvL w mu Z cs c.toList
def RvC (w : World) (mu : Nat -> Prop) (Z : List (Option PB)) : List AV -> Nat -> Nat -> Prop
 | [], _, _ => True
 | c :: cs, b, o => (∃ v, w.cell? ⟨b, o, none⟩ = some v /\ v.oneCell' = true /\ Rv w mu Z c v) /\ RvC w mu Z cs b (o + 1)
def RvL (w : World) (mu : Nat -> Prop) (Z : List (Option PB)) : List AV -> List Value -> Prop
 | [], vs => vs = []
 | c :: cs, vs => ∃ v vs', vs = v :: vs' /\ Rv w mu Z c v /\ RvL w mu Z cs vs'
end
def Lo (n : Nat) : Nat -> Prop := fun b => b < n
structure Ext (B : Nat -> Prop) (w w' : World) (mu mu' : Nat -> Prop) (Z Z' : List (Option PB)) : Prop where
 low : ∀ b, B b -> w'.heap[b]? = w.heap[b]?
 size : w.heap.size <= w'.heap.size
 keep : ∀ b, b < w.heap.size -> ¬ mu b -> w'.heap[b]? = w.heap[b]? /\ ¬ mu' b
 pre : ∀ (i : Nat) (p : PB), Z[i]? = some (some p) -> Z'[i]? = some (some p)
 os : w'.os = w.os
 tape : w'.tape = w.tape
 output : w'.output = w.output
 drawn : Dr.d = true -> w.drawn <= w'.drawn
theorem Ext.refl {B : Nat -> Prop} (w : World) (mu : Nat -> Prop) (Z : List (Option PB)) : Ext B w w mu mu Z Z := ⟨fun _ _ => rfl, Nat.le_refl _, fun _ _ h => ⟨rfl, h⟩, fun _ _ h => h, rfl, rfl, rfl, fun _ => Nat.le_refl _⟩
theorem Ext.trans {B : Nat -> Prop} {w w' w'' : World} {mu mu' mu'' : Nat -> Prop} {Z Z' Z'' : List (Option PB)} (h : Ext B w w' mu mu' Z Z') (k : Ext B w' w'' mu' mu'' Z' Z'') : Ext B w w'' mu mu'' Z Z'' :=
 ⟨fun b hb => (k.low b hb).trans (h.low b hb), Nat.le_trans h.size k.size, fun b hb hm => by
  have h1 := h.keep b hb hm
  have h2 := k.keep b (Nat.lt_of_lt_of_le hb h.size) h1.2
  exact ⟨h2.1.trans h1.1, h2.2⟩, fun i p hp => k.pre i p (h.pre i p hp), k.os.trans h.os, k.tape.trans h.tape, k.output.trans h.output, fun e => Nat.le_trans (h.drawn e) (k.drawn e)⟩
theorem Ext.pure {B : Nat -> Prop} {w w' : World} {mu mu' : Nat -> Prop} {Z Z' : List (Option PB)} (h : Ext B w w' mu mu' Z Z') : Ext B w w' mu mu' [] [] :=
 ⟨h.low, h.size, h.keep, fun i p hp => by simp at hp, h.os, h.tape, h.output, h.drawn⟩
theorem lC {w w' : World} {b o : Nat} (h : w'.heap[b]? = w.heap[b]?) : w'.cell? ⟨b, o, none⟩ = w.cell? ⟨b, o, none⟩ := World.cell?_of_block (w := w) h
mutual
theorem Rv.ext {B : Nat -> Prop} {w w' : World} {mu mu' : Nat -> Prop} {Z Z' : List (Option PB)} (h : Ext B w w' mu mu' Z Z') : (A : AV) -> (v : Value) -> Rv w mu Z A v -> Rv w' mu' Z' A v
 | .unk, _, _ => trivial
 | .at x, v, hv => hv
 | .sl nl [] len, v, hv => by
  rcases hv with hv | ⟨b, o, cap, h1, h2, h3, h4⟩ | hv
  · exact .inl hv
  · exact .inr (.inl ⟨b, o, cap, h1, h2, fun hc => (hc rfl).elim, trivial⟩)
  · exact .inr (.inr hv)
 | .sl nl (c :: cs) len, v, hv => by
  rcases hv with hv | ⟨b, o, cap, h1, h2, h3, h4⟩ | ⟨_, hv, _⟩
  rotate_left 2
  · cases hv
  · exact .inl hv
  · have hlt : b < w.heap.size := by obtain ⟨⟨u, hu, _⟩, _⟩ := h4; exact World.block_lt_of_cell? _ ⟨b, o, none⟩ hu
    have hk := h.keep b hlt (h3 (by simp))
    exact .inr (.inl ⟨b, o, cap, h1, h2, fun _ => hk.2, RvC.ext h.pure (c :: cs) b o hk.1 h4⟩)
 | .pp [] off, v, hv => by
  obtain ⟨b, o, h1, h2, h3⟩ := hv
  exact ⟨b, o, h1, fun hc => (hc rfl).elim, trivial⟩
 | .pp (c :: cs) off, v, hv => by
  obtain ⟨b, o, h1, h2, h3⟩ := hv
  have hlt : b < w.heap.size := by obtain ⟨⟨u, hu, _⟩, _⟩ := h3; exact World.block_lt_of_cell? _ ⟨b, o, none⟩ hu
  have hk := h.keep b hlt (h2 (by simp))
  exact ⟨b, o, h1, fun _ => hk.2, RvC.ext h.pure (c :: cs) b o hk.1 h3⟩
 | .hs i off len es, v, hv => by
  rcases hv with hv | ⟨p, a, cap, h1, h2⟩
  · exact .inl hv
  · exact .inr ⟨p, a, cap, h.pre _ _ h1, h2⟩
 | .hc i off len cap es, v, hv => by
  obtain ⟨p, a, h1, h2⟩ := hv
  exact ⟨p, a, h.pre _ _ h1, h2⟩
 | .hp i off, v, hv => by
  obtain ⟨p, h1, h2⟩ := hv
  exact ⟨p, h.pre _ _ h1, h2⟩
 | .mp i, v, hv => by
  obtain ⟨p, h1, h2⟩ := hv
  exact ⟨p, h.pre _ _ h1, h2⟩
 | .agg cs, v, hv => by
  obtain ⟨vs, h1, h2⟩ := hv
  exact ⟨vs, h1, RvL.ext h cs _ h2⟩
 | .tup cs, v, hv => by
  obtain ⟨vs, h1, h2⟩ := hv
  exact ⟨vs, h1, RvL.ext h cs _ h2⟩
 | .fn f fs cs, v, hv => by
  obtain ⟨a, c, h1, h2, h3⟩ := hv
  exact ⟨a, c, h1, RvL.ext h fs _ h2, RvL.ext h cs _ h3⟩
theorem RvC.ext {B : Nat -> Prop} {w w' : World} {mu mu' : Nat -> Prop} {Z Z' : List (Option PB)} (h : Ext B w w' mu mu' Z Z') : (cs : List AV) -> (b o : Nat) -> w'.heap[b]? = w.heap[b]? -> RvC w mu Z cs b o -> RvC w' mu' Z' cs b o
 | [], _, _, _, _ => trivial
 | c :: cs, b, o, hb, hc => by
  obtain ⟨⟨v, h1, h2, h3⟩, h4⟩ := hc
  exact ⟨⟨v, by rw [lC hb]; exact h1, h2, Rv.ext h c v h3⟩, RvC.ext h cs b (o + 1) hb h4⟩
theorem RvL.ext {B : Nat -> Prop} {w w' : World} {mu mu' : Nat -> Prop} {Z Z' : List (Option PB)} (h : Ext B w w' mu mu' Z Z') : (cs : List AV) -> (vs : List Value) -> RvL w mu Z cs vs -> RvL w' mu' Z' cs vs
 | [], _, hv => hv
 | c :: cs, vs, hv => by
  obtain ⟨v, vs', h1, h2, h3⟩ := hv
  exact ⟨v, vs', h1, Rv.ext h c v h2, RvL.ext h cs vs' h3⟩
end
def aH (out : Nat -> Prop) (Z : List (Option PB)) (H : List Blk) (b : Nat) : Prop :=
 out b \/ ∃ (i : Nat) (x : Blk) (p : PB), H[i]? = some x /\ x.eh = true /\ Z[i]? = some (some p) /\ x.owns p b
def jl (w : World) (mu : Nat -> Prop) (s : Option (Nat × Nat × Nat)) (len es : Nat) (cs : List AV) (v : Value) : Prop :=
 (len = 0 /\ cs = [] /\ v = .slice none 0 0) \/ ∃ (q : Nat × Nat × Nat) (a : Addr) (cap : Nat) (c : Array Value) (e : TypeId), s = some q /\ v = .slice (some a) len cap /\ len <= cap /\ a.spot = none /\
  (0 < cap -> a = ⟨q.1, q.2.1, none⟩ /\ q.2.1 + cap * es <= q.2.2) /\ w.heap[q.1]? = some (.cells c e (0, 0)) /\ c.size = q.2.2 /\ (len = 0 -> cs = []) /\ RvC w mu [] cs q.1 q.2.1
def RvW (w : World) (mu : Nat -> Prop) (Z : List (Option PB)) : List RC -> (Nat -> Option (Nat × Nat × Nat)) -> Nat -> Nat -> Prop
 | [], _, _, _ => True
 | .row len es cs :: rs, ss, b, o => (∃ v, w.cell? ⟨b, o, none⟩ = some v /\ jl w mu (ss 0) len es cs v) /\ RvW w mu Z rs (fun i => ss (i + 1)) b (o + 1)
 | .av A :: rs, ss, b, o => (∃ v, w.cell? ⟨b, o, none⟩ = some v /\ v.oneCell' = true /\ Rv w mu Z A v) /\ RvW w mu Z rs (fun i => ss (i + 1)) b (o + 1)
def lK (rs : List RC) (p : PB) : Prop :=
 (∀ (k len es : Nat) (cs : List AV) (q : Nat × Nat × Nat), rs[k]? = some (.row len es cs) -> p.subs k = some q -> q.1 ≠ p.blk) /\
 ∀ (k k' len es len' es' : Nat) (cs cs' : List AV) (q q' : Nat × Nat × Nat), k ≠ k' -> rs[k]? = some (.row len es cs) -> rs[k']? = some (.row len' es' cs') -> p.subs k = some q -> p.subs k' = some q' -> q.1 ≠ q'.1
theorem jl.ext {B : Nat -> Prop} {w w' : World} {mu mu' : Nat -> Prop} {Z Z' : List (Option PB)} (h : Ext B w w' mu mu' Z Z') {s : Option (Nat × Nat × Nat)} {len es : Nat} {cs : List AV} {v : Value} (hs : ∀ q, s = some q -> w'.heap[q.1]? = w.heap[q.1]?) (hv : jl w mu s len es cs v) : jl w' mu' s len es cs v := by
 rcases hv with hv | ⟨q, a, cap, c, e, h1, h2, h3, h4, h5, h6, h7, h0, h8⟩
 · exact .inl hv
 · exact .inr ⟨q, a, cap, c, e, h1, h2, h3, h4, h5, by rw [hs q h1]; exact h6, h7, h0, RvC.ext h.pure cs _ _ (hs q h1) h8⟩
theorem RvW.ext {B : Nat -> Prop} {w w' : World} {mu mu' : Nat -> Prop} {Z Z' : List (Option PB)} (h : Ext B w w' mu mu' Z Z') : (rs : List RC) -> (ss : Nat -> Option (Nat × Nat × Nat)) -> (b o : Nat) -> w'.heap[b]? = w.heap[b]? ->
  (∀ (k len es : Nat) (cs : List AV) (q : Nat × Nat × Nat), rs[k]? = some (.row len es cs) -> ss k = some q -> w'.heap[q.1]? = w.heap[q.1]?) -> RvW w mu Z rs ss b o -> RvW w' mu' Z' rs ss b o
 | [], _, _, _, _, _, _ => trivial
 | .row len es cs :: rs, ss, b, o, hb, hq, hc => by
  obtain ⟨⟨v, h1, h2⟩, h3⟩ := hc
  exact ⟨⟨v, by rw [lC hb]; exact h1, jl.ext h (fun q e => hq 0 len es cs q rfl e) h2⟩, RvW.ext h rs _ b (o + 1) hb (fun k l' e' c' q e1 e2 => hq (k + 1) l' e' c' q (by simpa using e1) e2) h3⟩
 | .av A :: rs, ss, b, o, hb, hq, hc => by
  obtain ⟨⟨v, h1, h2, h3⟩, h4⟩ := hc
  exact ⟨⟨v, by rw [lC hb]; exact h1, h2, Rv.ext h A v h3⟩, RvW.ext h rs _ b (o + 1) hb (fun k l' e' c' q e1 e2 => hq (k + 1) l' e' c' q (by simpa using e1) e2) h4⟩
def RvM (w : World) (mu : Nat -> Prop) (Z : List (Option PB)) : Nat -> List (Value × AV) -> List MapEntry -> Prop
 | _, [], l => l = []
 | i, (k, A) :: es, l => ∃ e l', l = e :: l' /\ e.key = k /\ e.born = i /\ Rv w mu Z A e.val /\ RvM w mu Z (i + 1) es l'
theorem RvM.ext {B : Nat -> Prop} {w w' : World} {mu mu' : Nat -> Prop} {Z Z' : List (Option PB)} (h : Ext B w w' mu mu' Z Z') : (i : Nat) -> (es : List (Value × AV)) -> (l : List MapEntry) -> RvM w mu Z i es l -> RvM w' mu' Z' i es l
 | _, [], _, hv => hv
 | i, (k, A) :: es, l, hv => by
  obtain ⟨e, l', h1, h2, h0, h3, h4⟩ := hv
  exact ⟨e, l', h1, h2, h0, Rv.ext h A _ h3, RvM.ext h (i + 1) es l' h4⟩
def rcE (p : Value × RC) : Value × AV := (p.1, match p.2 with | .row .. => .unk | .av A => A)
def pZ (w : World) (mu : Nat -> Prop) (ss : Nat -> Option (Nat × Nat × Nat)) (l : List (Value × RC)) (a : List MapEntry) : Prop :=
 ∀ (k : Nat) (key : Value) (len es : Nat) (cs : List AV), l[k]? = some (key, .row len es cs) -> ∃ e, a[k]? = some e /\ jl w mu (ss k) len es cs e.val
theorem pZ.ext {B : Nat -> Prop} {w w' : World} {mu mu' : Nat -> Prop} {Z Z' : List (Option PB)} (h : Ext B w w' mu mu' Z Z') {ss : Nat -> Option (Nat × Nat × Nat)} {l : List (Value × RC)} {a : List MapEntry}
  (hq : ∀ (k : Nat) (key : Value) (len es : Nat) (cs : List AV) (q : Nat × Nat × Nat), l[k]? = some (key, .row len es cs) -> ss k = some q -> w'.heap[q.1]? = w.heap[q.1]?) (hr : pZ w mu ss l a) : pZ w' mu' ss l a :=
 fun k key len es cs hk => by
  obtain ⟨e, h1, h2⟩ := hr k key len es cs hk
  exact ⟨e, h1, jl.ext h (fun q hs => hq k key len es cs q hk hs) h2⟩
def cS (w : World) (mu : Nat -> Prop) (Z : List (Option PB)) (p : PB) : Blk -> Prop
 | .dead => True
 | .own cs => (∃ c e, w.heap[p.blk]? = some (.cells c e (0, 0)) /\ c.size = p.size) /\ RvC w mu Z cs p.blk p.off
 | .fix cs => RvC w mu Z cs p.blk p.off
 | .map es => ∃ a, w.heap[p.blk]? = some (.map a a.size) /\ RvM w mu Z 0 es a.toList
 | .iter m n seen => p.off = 0 /\ ∃ q, Z[m]? = some (some q) /\ w.heap[p.blk]? = some (.mapIter (some q.blk) n seen.toArray n)
 | .rows rs => (∃ c e, w.heap[p.blk]? = some (.cells c e (0, 0)) /\ c.size = p.size) /\ RvW w mu Z rs p.subs p.blk p.off /\ lK rs p
 | .mapr _ _ l => ∃ a, w.heap[p.blk]? = some (.map a a.size) /\ RvM w mu Z 0 (l.map rcE) a.toList /\ pZ w mu p.subs l a.toList /\ lK (l.map (·.2)) p
theorem cS.ext {B : Nat -> Prop} {w w' : World} {mu mu' : Nat -> Prop} {Z Z' : List (Option PB)} (h : Ext B w w' mu mu' Z Z') {p : PB} {x : Blk} (hbo : ∀ b, x.owns p b -> w'.heap[b]? = w.heap[b]?)
  (hx : cS w mu Z p x) : cS w' mu' Z' p x := by
 have hb : x.isLive = true -> w'.heap[p.blk]? = w.heap[p.blk]? := fun hl => hbo _ (Blk.iZ hl)
 cases x with
 | dead => trivial
 | own cs => obtain ⟨⟨c, e, h1, h2⟩, h3⟩ := hx; exact ⟨⟨c, e, by rw [hb rfl]; exact h1, h2⟩, RvC.ext h cs _ _ (hb rfl) h3⟩
 | fix cs => exact RvC.ext h cs _ _ (hb rfl) hx
 | map es => obtain ⟨a, h1, h2⟩ := hx; exact ⟨a, by rw [hb rfl]; exact h1, RvM.ext h 0 es _ h2⟩
 | iter m n seen => obtain ⟨h0, q, h1, h2⟩ := hx; exact ⟨h0, q, h.pre _ _ h1, by rw [hb rfl]; exact h2⟩
 | rows rs => obtain ⟨⟨c, e, h1, h2⟩, h3, h4⟩ := hx; exact ⟨⟨c, e, by rw [hb rfl]; exact h1, h2⟩, RvW.ext h rs _ _ _ (hb rfl) (fun k len es cs q g1 g2 => hbo _ (.inr ⟨k, len, es, cs, q, g1, g2, rfl⟩)) h3, h4⟩
 | mapr d ez l => obtain ⟨a, h1, h2, h3, h4⟩ := hx; exact ⟨a, by rw [hb rfl]; exact h1, RvM.ext h 0 _ _ h2, pZ.ext h (fun k key len es cs q g1 g2 => hbo _ (.inr ⟨k, key, len, es, cs, q, g1, g2, rfl⟩)) h3, h4⟩
structure Inv (out : Nat -> Prop) (B : Nat -> Prop) (w : World) (Z : List (Option PB)) (H : List Blk) : Prop where
 len : Z.length = H.length
 bound : ∀ b, B b -> b < w.heap.size
 out_lt : ∀ b, out b -> B b
 baseO : ∀ (i : Nat) (x : Blk) (p : PB) (b : Nat), H[i]? = some x -> Z[i]? = some (some p) -> x.owns p b -> ¬ B b /\ b < w.heap.size
 ok : ∀ (i : Nat) (x : Blk) (p : PB), H[i]? = some x -> Z[i]? = some (some p) -> cS w (aH out Z H) Z p x
 sepO : ∀ (i j : Nat) (x y : Blk) (p q : PB) (b : Nat), i ≠ j -> H[i]? = some x -> H[j]? = some y -> Z[i]? = some (some p) -> Z[j]? = some (some q) -> x.eh = true -> x.owns p b -> ¬ y.owns q b
theorem Inv.base {out : Nat -> Prop} {B : Nat -> Prop} {w : World} {Z : List (Option PB)} {H : List Blk} (hI : Inv out B w Z H) (i : Nat) (x : Blk) (p : PB) (h1 : H[i]? = some x) (h2 : Z[i]? = some (some p)) (h3 : x.isLive = true) : ¬ B p.blk /\ p.blk < w.heap.size :=
 hI.baseO i x p p.blk h1 h2 (Blk.iZ h3)
theorem Blk.bS {x : Blk} (h : x.eh = true) : x.isLive = true := by cases x <;> simp_all [Blk.eh, Blk.isLive]
theorem aE {α : Type} {l : List α} {i : Nat} {x : α} (h : l[i]? = some x) : i < l.length := (List.getElem?_eq_some_iff.1 h).1
def upd {α : Type} (l : List α) (i : Nat) (x : α) : List α := if i < l.length then l.set i x else l ++ [x]
theorem er {α : Type} {l : List α} {i j : Nat} {x : α} (hi : i <= l.length) : (upd l i x)[j]? = if j = i then some x else l[j]? := by
 unfold upd
 split
 · rw [List.getElem?_set]
   by_cases hj : j = i
   · subst hj; simp [*]
   · rw [if_neg (fun e => hj e.symm), if_neg hj]
 · obtain rfl : i = l.length := by omega
   by_cases hj : j = l.length
   · subst hj; simp
   · rw [if_neg hj]
     by_cases hlt : j < l.length
     · rw [List.getElem?_append_left hlt]
     · rw [List.getElem?_eq_none (by simp; omega), List.getElem?_eq_none (by omega)]
theorem eO {α : Type} {l : List α} {i j : Nat} {x y : α} (hi : i <= l.length) (h : (upd l i x)[j]? = some y) : (j = i /\ y = x) \/ (j ≠ i /\ l[j]? = some y) := by
 rw [er hi] at h
 split at h
 · rename_i e; cases h; exact .inl ⟨e, rfl⟩
 · rename_i e; exact .inr ⟨e, h⟩
theorem cJ {α : Type} {l : List α} {i : Nat} {x : α} (hi : i <= l.length) : (upd l i x).length = if i = l.length then l.length + 1 else l.length := by
 unfold upd
 split
 · rw [List.length_set, if_neg (by omega)]
 · rw [if_pos (by omega)]; simp
theorem lg {out : Nat -> Prop} {B : Nat -> Prop} {w : World} {Z : List (Option PB)} {H : List Blk} (hI : Inv out B w Z H) (o : Obj) (x : Blk) (p : PB) (hp : p.blk = w.heap.size) {n : Nat} (hn : n <= H.length) (hf : ∀ q, Z[n]? ≠ some (some q)) (hox : ∀ b, x.owns p b -> p.blk = b := by first | exact fun _ h => h | exact fun _ h => h.elim) :
  Ext B w (w.alloc o) (aH out Z H) (aH out (upd Z n (some p)) (upd H n x)) Z (upd Z n (some p)) := by
 have hl := hI.len
 refine ⟨fun b hb => ?_, by simp, fun b hb hm => ⟨?_, ?_⟩, ?_, rfl, rfl, rfl, fun _ => Nat.le_refl _⟩
 · have := hI.bound b hb; simp only [World.alloc, Array.getElem?_push]; rw [if_neg (by omega)]
 · simp only [World.alloc, Array.getElem?_push]; rw [if_neg (by omega)]
 · rintro (ho | ⟨i, y, q, h1, h2, h3, h4⟩)
   · exact hm (.inl ho)
   · rcases eO hn h1 with ⟨rfl, rfl⟩ | ⟨hi, h1'⟩
     · rcases eO (by omega) h3 with ⟨_, e⟩ | ⟨hi', _⟩
       · cases e; have := hox b h4; omega
       · exact hi' rfl
     · rcases eO (by omega) h3 with ⟨e, _⟩ | ⟨_, h3'⟩
       · exact hi e
       · exact hm (.inr ⟨i, y, q, h1', h2, h3', h4⟩)
 · intro i q h
   rw [er (by omega), if_neg]
   · exact h
   · rintro rfl; exact hf q h
theorem Inv.alloc {out : Nat -> Prop} {B : Nat -> Prop} {w : World} {Z : List (Option PB)} {H : List Blk} (hI : Inv out B w Z H) (o : Obj) (x : Blk) (p : PB) (hp : p.blk = w.heap.size) {n : Nat} (hn : n <= H.length) (hf : ∀ q, Z[n]? ≠ some (some q))
  (hx : cS (w.alloc o) (aH out (upd Z n (some p)) (upd H n x)) (upd Z n (some p)) p x) (hox : ∀ b, x.owns p b -> p.blk = b := by first | exact fun _ h => h | exact fun _ h => h.elim) : Inv out B (w.alloc o) (upd Z n (some p)) (upd H n x) := by
 have hE := lg hI o x p hp hn hf hox
 have hl := hI.len
 have split : ∀ {j : Nat} {z : Blk} {q : PB}, (upd H n x)[j]? = some z -> (upd Z n (some p))[j]? = some (some q) -> (j = n /\ z = x /\ q = p) \/ (j ≠ n /\ H[j]? = some z /\ Z[j]? = some (some q)) := by
  intro j z q g1 g2
  rcases eO hn g1 with ⟨rfl, rfl⟩ | ⟨hj, g1'⟩
  · rcases eO (by omega) g2 with ⟨_, e⟩ | ⟨hj', _⟩
    · cases e; exact .inl ⟨rfl, rfl, rfl⟩
    · exact (hj' rfl).elim
  · rcases eO (by omega) g2 with ⟨e, _⟩ | ⟨_, g2'⟩
    · exact (hj e).elim
    · exact .inr ⟨hj, g1', g2'⟩
 refine ⟨by rw [cJ (by omega), cJ hn, hl], fun b hb => by have := hI.bound b hb; simp; omega, hI.out_lt, ?_, ?_, ?_⟩
 · intro i y q b h1 h2 h3
   rcases split h1 h2 with ⟨rfl, rfl, rfl⟩ | ⟨_, h1', h2'⟩
   · have := hox b h3; exact ⟨fun hb => by have := hI.bound _ hb; omega, by simp; omega⟩
   · have := hI.baseO i y q b h1' h2' h3; exact ⟨this.1, by simp; omega⟩
 · intro i y q h1 h2
   rcases split h1 h2 with ⟨rfl, rfl, rfl⟩ | ⟨_, h1', h2'⟩
   · exact hx
   · refine cS.ext hE (fun b hb => ?_) (hI.ok i y q h1' h2')
     have := hI.baseO i y q b h1' h2' hb
     simp only [World.alloc, Array.getElem?_push]; rw [if_neg (by omega)]
 · intro i j y z q r b hij h1 h2 h3 h4 h5 h6 h7
   rcases split h1 h3 with ⟨rfl, rfl, rfl⟩ | ⟨_, h1', h3'⟩
   · rcases split h2 h4 with ⟨e, _, _⟩ | ⟨_, h2', h4'⟩
     · exact (hij e.symm).elim
     · have := hI.baseO j z r b h2' h4' h7; have := hox b h6; omega
   · rcases split h2 h4 with ⟨rfl, rfl, rfl⟩ | ⟨_, h2', h4'⟩
     · have := hI.baseO i y q b h1' h3' h6; have := hox b h7; omega
     · exact hI.sepO i j y z q r b hij h1' h2' h3' h4' h5 h6 h7
theorem ff {w : World} {mu : Nat -> Prop} {Z : List (Option PB)} : ∀ (cs : List AV) (vs : List Value) (b o : Nat), RvL w mu Z cs vs -> (∀ v ∈ vs, v.oneCell' = true) ->
  (∀ j v, vs[j]? = some v -> w.cell? ⟨b, o + j, none⟩ = some v) -> RvC w mu Z cs b o
 | [], _, _, _, _, _, _ => trivial
 | c :: cs, vs, b, o, hv, h1, hc => by
  obtain ⟨v, vs', rfl, h2, h3⟩ := hv
  refine ⟨⟨v, by simpa using hc 0 v rfl, h1 v (by simp), h2⟩, ff cs vs' b (o + 1) h3 (fun u hu => h1 u (by simp [hu])) fun j u hj => ?_⟩
  have := hc (j + 1) u (by simpa using hj)
  rwa [show o + 1 + j = o + (j + 1) by omega]
theorem RvC.list {w : World} {mu : Nat -> Prop} {Z : List (Option PB)} : ∀ (cs : List AV) (b o : Nat), RvC w mu Z cs b o -> ∃ vs : List Value, vs.length = cs.length /\ RvL w mu Z cs vs /\ (∀ v ∈ vs, v.oneCell' = true) /\
  (∀ j v, vs[j]? = some v -> w.cell? ⟨b, o + j, none⟩ = some v)
 | [], _, _, _ => ⟨[], rfl, rfl, by simp, by simp⟩
 | c :: cs, b, o, h => by
  obtain ⟨⟨v, h1, h2, h3⟩, h4⟩ := h
  obtain ⟨vs, h5, h6, h7, h8⟩ := RvC.list cs b (o + 1) h4
  refine ⟨v :: vs, by simp [h5], ⟨v, vs, rfl, h3, h6⟩, fun u hu => ?_, fun j u hj => ?_⟩
  · rcases List.mem_cons.1 hu with rfl | hu
    · exact h2
    · exact h7 u hu
  · cases j with
    | zero => simp at hj; subst hj; exact h1
    | succ j =>
     have := h8 j u (by simpa using hj)
     rwa [show o + 1 + j = o + (j + 1) by omega] at this
theorem RvL.length {w : World} {mu : Nat -> Prop} {Z : List (Option PB)} : ∀ (cs : List AV) (vs : List Value), RvL w mu Z cs vs -> vs.length = cs.length
 | [], _, h => by cases h; rfl
 | c :: cs, _, h => by obtain ⟨v, vs', rfl, _, h2⟩ := h; simp [RvL.length cs vs' h2]
theorem RvL.get {w : World} {mu : Nat -> Prop} {Z : List (Option PB)} : ∀ (cs : List AV) (vs : List Value) (i : Nat) (c : AV), RvL w mu Z cs vs -> cs[i]? = some c -> ∃ v, vs[i]? = some v /\ Rv w mu Z c v
 | [], _, i, c, h, hc => by simp at hc
 | c :: cs, _, i, c', h, hc => by
  obtain ⟨v, vs', rfl, h1, h2⟩ := h
  cases i with
  | zero => simp at hc; subst hc; exact ⟨v, rfl, h1⟩
  | succ i => simpa using RvL.get cs vs' i c' h2 (by simpa using hc)
theorem RvL.append {w : World} {mu : Nat -> Prop} {Z : List (Option PB)} : ∀ (cs ds : List AV) (vs us : List Value), RvL w mu Z cs vs -> RvL w mu Z ds us -> RvL w mu Z (cs ++ ds) (vs ++ us)
 | [], _, _, _, h, k => by cases h; exact k
 | c :: cs, ds, _, us, h, k => by obtain ⟨v, vs', rfl, h1, h2⟩ := h; exact ⟨v, vs' ++ us, rfl, h1, RvL.append cs ds vs' us h2 k⟩
theorem RvL.take {w : World} {mu : Nat -> Prop} {Z : List (Option PB)} : ∀ (n : Nat) (cs : List AV) (vs : List Value), RvL w mu Z cs vs -> RvL w mu Z (cs.take n) (vs.take n)
 | 0, _, _, _ => by simp [RvL]
 | n + 1, [], _, h => by cases h; simp [RvL]
 | n + 1, c :: cs, _, h => by obtain ⟨v, vs', rfl, h1, h2⟩ := h; exact ⟨v, vs'.take n, rfl, h1, RvL.take n cs vs' h2⟩
theorem RvL.drop {w : World} {mu : Nat -> Prop} {Z : List (Option PB)} : ∀ (n : Nat) (cs : List AV) (vs : List Value), RvL w mu Z cs vs -> RvL w mu Z (cs.drop n) (vs.drop n)
 | 0, _, _, h => h
 | n + 1, [], _, h => by cases h; simp [RvL]
 | n + 1, c :: cs, _, h => by obtain ⟨v, vs', rfl, h1, h2⟩ := h; exact RvL.drop n cs vs' h2
theorem RvL.set {w : World} {mu : Nat -> Prop} {Z : List (Option PB)} : ∀ (cs : List AV) (vs : List Value) (i : Nat) (A : AV) (v : Value), RvL w mu Z cs vs -> Rv w mu Z A v -> RvL w mu Z (cs.set i A) (vs.set i v)
 | [], _, i, A, v, h, k => by cases h; simp [RvL]
 | c :: cs, _, i, A, v, h, k => by
  obtain ⟨u, vs', rfl, h1, h2⟩ := h
  cases i with
  | zero => exact ⟨v, vs', rfl, k, h2⟩
  | succ i => exact ⟨u, vs'.set i v, rfl, h1, RvL.set cs vs' i A v h2 k⟩
theorem RvL.lj {w : World} {mu : Nat -> Prop} {Z : List (Option PB)} : ∀ (cs : List AV) (vs : List Value), vs.length = cs.length -> (∀ (i : Nat) (c : AV) (v : Value), cs[i]? = some c -> vs[i]? = some v -> Rv w mu Z c v) -> RvL w mu Z cs vs
 | [], vs, h, _ => by simpa [RvL] using h
 | c :: cs, [], h, _ => by simp at h
 | c :: cs, v :: vs, h, k => ⟨v, vs, rfl, k 0 c v rfl rfl, RvL.lj cs vs (by simpa using h) fun i c v h1 h2 => k (i + 1) c v (by simpa using h1) (by simpa using h2)⟩
theorem RvC.get {w : World} {mu : Nat -> Prop} {Z : List (Option PB)} : ∀ (cs : List AV) (b o i : Nat) (c : AV), RvC w mu Z cs b o -> cs[i]? = some c -> ∃ v, w.cell? ⟨b, o + i, none⟩ = some v /\ v.oneCell' = true /\ Rv w mu Z c v
 | [], _, _, i, c, _, hc => by simp at hc
 | c :: cs, b, o, i, c', h, hc => by
  obtain ⟨⟨v, h1, h2, h3⟩, h4⟩ := h
  cases i with
  | zero => simp at hc; subst hc; exact ⟨v, h1, h2, h3⟩
  | succ i =>
   have := RvC.get cs b (o + 1) i c' h4 (by simpa using hc)
   rwa [show o + 1 + i = o + (i + 1) by omega] at this
theorem RvC.drop {w : World} {mu : Nat -> Prop} {Z : List (Option PB)} : ∀ (n : Nat) (cs : List AV) (b o : Nat), RvC w mu Z cs b o -> RvC w mu Z (cs.drop n) b (o + n)
 | 0, _, _, _, h => h
 | n + 1, [], _, _, _ => by simp [RvC]
 | n + 1, c :: cs, b, o, h => by
  have := RvC.drop n cs b (o + 1) h.2
  rwa [show o + 1 + n = o + (n + 1) by omega] at this
theorem RvC.take {w : World} {mu : Nat -> Prop} {Z : List (Option PB)} : ∀ (n : Nat) (cs : List AV) (b o : Nat), RvC w mu Z cs b o -> RvC w mu Z (cs.take n) b o
 | 0, _, _, _, _ => by simp [RvC]
 | n + 1, [], _, _, _ => by simp [RvC]
 | n + 1, c :: cs, b, o, h => ⟨h.1, RvC.take n cs b (o + 1) h.2⟩
theorem RvC.bound {w : World} {mu : Nat -> Prop} {Z : List (Option PB)} {cs : List AV} {b o : Nat} {c : Array Value} {e : TypeId} {f : Nat × Nat} (h : RvC w mu Z cs b o) (hb : w.heap[b]? = some (.cells c e f)) (hne : cs ≠ []) :
  o + cs.length <= c.size := by
 have hl : cs.length - 1 < cs.length := by have := List.length_pos_iff.2 hne; omega
 obtain ⟨v, h1, _⟩ := RvC.get cs b o (cs.length - 1) cs[cs.length - 1] h (List.getElem?_eq_getElem hl)
 simp only [World.cell?, hb] at h1
 have := (Array.getElem?_eq_some_iff.1 (by simpa using h1)).1
 omega
theorem br {α : Type} {l : List α} {i j : Nat} {y x : α} (h : (l.set i y)[j]? = some x) : (i = j /\ x = y) \/ (i ≠ j /\ l[j]? = some x) := by
 rw [List.getElem?_set] at h
 split at h
 · rename_i hij
   subst hij
   split at h
   · cases h; exact .inl ⟨rfl, rfl⟩
   · cases h
 · rename_i hij; exact .inr ⟨hij, h⟩
theorem Inv.kO {out : Nat -> Prop} {B : Nat -> Prop} {w w' : World} {Z : List (Option PB)} {H : List Blk} (hI : Inv out B w Z H) {i : Nat} {x : Blk} {p : PB} (h1 : H[i]? = some x) (hp : Z[i]? = some (some p)) (hm : x.eh = true) (y : Blk)
  (hs : w'.heap.size = w.heap.size) (hh : ∀ b, b ≠ p.blk -> w'.heap[b]? = w.heap[b]?) (ho : w'.os = w.os) (ht : w'.tape = w.tape) (hu : w'.output = w.output) (hd : Dr.d = true -> w.drawn <= w'.drawn)
  (hy : Ext B w w' (aH out Z H) (aH out Z (H.set i y)) Z Z -> cS w' (aH out Z (H.set i y)) Z p y) (hox : ∀ b, y.owns p b -> x.owns p b := by first | exact fun _ h => h | exact fun _ h => h.elim) :
  Ext B w w' (aH out Z H) (aH out Z (H.set i y)) Z Z /\ Inv out B w' Z (H.set i y) := by
 have hE : Ext B w w' (aH out Z H) (aH out Z (H.set i y)) Z Z := by
  refine ⟨fun b hb => hh b (by rintro rfl; exact (hI.base i x p h1 hp (Blk.bS hm)).1 hb), by omega, fun b hb hn => ?_, fun _ _ h => h, ho, ht, hu, hd⟩
  have hne : b ≠ p.blk := fun e => hn (.inr ⟨i, x, p, h1, hm, hp, by rw [e]; exact Blk.iZ (Blk.bS hm)⟩)
  refine ⟨hh b hne, ?_⟩
  rintro (hb' | ⟨j, z, q, g1, g2, g3, g4⟩)
  · exact hn (.inl hb')
  · rcases br g1 with ⟨rfl, rfl⟩ | ⟨_, g1'⟩
    · rw [hp] at g3; cases g3; exact hn (.inr ⟨i, x, p, h1, hm, hp, hox b g4⟩)
    · exact hn (.inr ⟨j, z, q, g1', g2, g3, g4⟩)
 refine ⟨hE, by simp [hI.len], fun b hb => by have := hI.bound b hb; omega, hI.out_lt, ?_, ?_, ?_⟩
 · intro j z q b g1 g2 g3
   rcases br g1 with ⟨rfl, rfl⟩ | ⟨_, g1'⟩
   · rw [hp] at g2; cases g2; have := hI.baseO i x p b h1 hp (hox b g3); exact ⟨this.1, by omega⟩
   · have := hI.baseO j z q b g1' g2 g3; exact ⟨this.1, by omega⟩
 · intro j z q g1 g2
   rcases br g1 with ⟨rfl, rfl⟩ | ⟨hij, g1'⟩
   · rw [hp] at g2; cases g2; exact hy hE
   · exact cS.ext hE (fun b hb => hh _ (fun e => hI.sepO i j x z p q b hij h1 g1' hp g2 hm (by rw [e]; exact Blk.iZ (Blk.bS hm)) hb)) (hI.ok j z q g1' g2)
 · intro j k z t q r b hjk g1 g2 g3 g4 g5 g6 g7
   rcases br g1 with ⟨rfl, rfl⟩ | ⟨hij, g1'⟩
   · rw [hp] at g3; cases g3
     rcases br g2 with ⟨rfl, _⟩ | ⟨_, g2'⟩
     · exact (hjk rfl).elim
     · exact hI.sepO i k x t p r b hjk h1 g2' hp g4 hm (hox b g6) g7
   · rcases br g2 with ⟨rfl, rfl⟩ | ⟨_, g2'⟩
     · rw [hp] at g4; cases g4
       exact hI.sepO j i z x q p b hjk g1' h1 g3 hp g5 g6 (hox b g7)
     · exact hI.sepO j k z t q r b hjk g1' g2' g3 g4 g5 g6 g7
theorem Inv.kill {out : Nat -> Prop} {B : Nat -> Prop} {w w' : World} {Z : List (Option PB)} {H : List Blk} (hI : Inv out B w Z H) (i : Nat) (hh : w'.heap = w.heap) (ho : w'.os = w.os) (ht : w'.tape = w.tape) (hu : w'.output = w.output) (hd : Dr.d = true -> w.drawn <= w'.drawn) :
  Ext B w w' (aH out Z H) (aH out Z (H.set i .dead)) Z Z /\ Inv out B w' Z (H.set i .dead) := by
 have hE : Ext B w w' (aH out Z H) (aH out Z (H.set i .dead)) Z Z := by
  refine ⟨fun b _ => by rw [hh], by rw [hh]; exact Nat.le_refl _, fun b _ hn => ⟨by rw [hh], ?_⟩, fun _ _ h => h, ho, ht, hu, hd⟩
  rintro (hb' | ⟨j, z, q, g1, g2, g3, g4⟩)
  · exact hn (.inl hb')
  · rcases br g1 with ⟨rfl, rfl⟩ | ⟨_, g1'⟩
    · simp [Blk.eh] at g2
    · exact hn (.inr ⟨j, z, q, g1', g2, g3, g4⟩)
 refine ⟨hE, by simp [hI.len], by rw [hh]; exact hI.bound, hI.out_lt, ?_, ?_, ?_⟩
 · intro j z q b g1 g2 g3
   rcases br g1 with ⟨rfl, rfl⟩ | ⟨_, g1'⟩
   · exact g3.elim
   · rw [hh]; exact hI.baseO j z q b g1' g2 g3
 · intro j z q g1 g2
   rcases br g1 with ⟨rfl, rfl⟩ | ⟨_, g1'⟩
   · trivial
   · exact cS.ext hE (fun _ _ => by rw [hh]) (hI.ok j z q g1' g2)
 · intro j k z t q r b hjk g1 g2 g3 g4 g5 g6 g7
   rcases br g1 with ⟨rfl, rfl⟩ | ⟨_, g1'⟩
   · simp [Blk.eh] at g5
   · rcases br g2 with ⟨rfl, rfl⟩ | ⟨_, g2'⟩
     · exact g7.elim
     · exact hI.sepO j k z t q r b hjk g1' g2' g3 g4 g5 g6 g7
theorem Inv.qu {out : Nat -> Prop} {B : Nat -> Prop} {w : World} {Z : List (Option PB)} {H : List Blk} (hI : Inv out B w Z H) {n : Nat} (hn : n <= H.length) (hf : ∀ q, Z[n]? ≠ some (some q)) (y : Blk) :
  Ext B w w (aH out Z H) (aH out (upd Z n none) (upd H n y)) Z (upd Z n none) /\ Inv out B w (upd Z n none) (upd H n y) := by
 have hl := hI.len
 have split : ∀ {j : Nat} {z : Blk} {q : PB}, (upd H n y)[j]? = some z -> (upd Z n none)[j]? = some (some q) -> H[j]? = some z /\ Z[j]? = some (some q) := by
  intro j z q g1 g2
  rcases eO hn g1 with ⟨rfl, rfl⟩ | ⟨hj, g1'⟩
  · rcases eO (by omega) g2 with ⟨_, e⟩ | ⟨hj', _⟩
    · cases e
    · exact (hj' rfl).elim
  · rcases eO (by omega) g2 with ⟨e, _⟩ | ⟨_, g2'⟩
    · exact (hj e).elim
    · exact ⟨g1', g2'⟩
 have hmu : ∀ b, aH out (upd Z n none) (upd H n y) b -> aH out Z H b := by
  rintro b (hb' | ⟨j, z, q, g1, g2, g3, g4⟩)
  · exact .inl hb'
  · obtain ⟨f1, f2⟩ := split g1 g3
    exact .inr ⟨j, z, q, f1, g2, f2, g4⟩
 have hE : Ext B w w (aH out Z H) (aH out (upd Z n none) (upd H n y)) Z (upd Z n none) := ⟨fun _ _ => rfl, Nat.le_refl _, fun b _ hb => ⟨rfl, fun hb' => hb (hmu b hb')⟩, fun j q h => by
  rw [er (by omega), if_neg]
  · exact h
  · rintro rfl; exact hf q h, rfl, rfl, rfl, fun _ => Nat.le_refl _⟩
 refine ⟨hE, by rw [cJ (by omega), cJ hn, hl], hI.bound, hI.out_lt, ?_, ?_, ?_⟩
 · intro j z q b g1 g2 g3
   obtain ⟨f1, f2⟩ := split g1 g2
   exact hI.baseO j z q b f1 f2 g3
 · intro j z q g1 g2
   obtain ⟨f1, f2⟩ := split g1 g2
   exact cS.ext hE (fun _ _ => rfl) (hI.ok j z q f1 f2)
 · intro j k z t q r b hjk g1 g2 g3 g4 g5 g6 g7
   obtain ⟨f1, f3⟩ := split g1 g3
   obtain ⟨f2, f4⟩ := split g2 g4
   exact hI.sepO j k z t q r b hjk f1 f2 f3 f4 g5 g6 g7
theorem Inv.grow {out : Nat -> Prop} {B : Nat -> Prop} {w w' : World} {Z : List (Option PB)} {H : List Blk} (hI : Inv out B w Z H) {i : Nat} {x : Blk} {p : PB} (h1 : H[i]? = some x) (hp : Z[i]? = some (some p)) (hm : x.eh = true) (y : Blk) (p' : PB) (hp' : p'.blk = p.blk)
  {n : Nat} (hn : n <= H.length) (hf : ∀ q, Z[n]? ≠ some (some q))
  (hs : w'.heap.size = w.heap.size) (hh : ∀ b, b ≠ p.blk -> w'.heap[b]? = w.heap[b]?) (ho : w'.os = w.os) (ht : w'.tape = w.tape) (hu : w'.output = w.output) (hd : Dr.d = true -> w.drawn <= w'.drawn)
  (hy : Ext B w w' (aH out Z H) (aH out (upd Z n (some p')) (upd (H.set i .dead) n y)) Z (upd Z n (some p')) -> cS w' (aH out (upd Z n (some p')) (upd (H.set i .dead) n y)) (upd Z n (some p')) p' y)
  (hox : ∀ b, y.owns p' b -> x.owns p b := by first | exact fun _ h => h | exact fun _ h => h.elim) :
  Ext B w w' (aH out Z H) (aH out (upd Z n (some p')) (upd (H.set i .dead) n y)) Z (upd Z n (some p')) /\ Inv out B w' (upd Z n (some p')) (upd (H.set i .dead) n y) := by
 have hl := hI.len
 have hn' : n <= (H.set i .dead).length := by simpa using hn
 have split : ∀ {j : Nat} {z : Blk} {q : PB}, (upd (H.set i .dead) n y)[j]? = some z -> (upd Z n (some p'))[j]? = some (some q) -> z.isLive = true -> (j = n /\ z = y /\ q = p') \/ (i ≠ j /\ j ≠ n /\ H[j]? = some z /\ Z[j]? = some (some q)) := by
  intro j z q g1 g2 g3
  rcases eO hn' g1 with ⟨rfl, rfl⟩ | ⟨hj, g1'⟩
  · rcases eO (by omega) g2 with ⟨_, e⟩ | ⟨hj', _⟩
    · cases e; exact .inl ⟨rfl, rfl, rfl⟩
    · exact (hj' rfl).elim
  · rcases eO (by omega) g2 with ⟨e, _⟩ | ⟨_, g2'⟩
    · exact (hj e).elim
    · rcases br g1' with ⟨rfl, rfl⟩ | ⟨hij, g1''⟩
      · simp [Blk.isLive] at g3
      · exact .inr ⟨hij, hj, g1'', g2'⟩
 have hE : Ext B w w' (aH out Z H) (aH out (upd Z n (some p')) (upd (H.set i .dead) n y)) Z (upd Z n (some p')) := by
  refine ⟨fun b hb => hh b (by rintro rfl; exact (hI.base i x p h1 hp (Blk.bS hm)).1 hb), by omega, fun b hb hn0 => ?_, fun j q h => ?_, ho, ht, hu, hd⟩
  · have hne : b ≠ p.blk := fun e => hn0 (.inr ⟨i, x, p, h1, hm, hp, by rw [e]; exact Blk.iZ (Blk.bS hm)⟩)
    refine ⟨hh b hne, ?_⟩
    rintro (hb' | ⟨j, z, q, g1, g2, g3, g4⟩)
    · exact hn0 (.inl hb')
    · rcases split g1 g3 (Blk.bS g2) with ⟨_, rfl, rfl⟩ | ⟨_, _, g1', g3'⟩
      · exact hn0 (.inr ⟨i, x, p, h1, hm, hp, hox b g4⟩)
      · exact hn0 (.inr ⟨j, z, q, g1', g2, g3', g4⟩)
  · rw [er (by omega), if_neg]
    · exact h
    · rintro rfl; exact hf q h
 refine ⟨hE, by rw [cJ (by omega), cJ hn', List.length_set, hl], fun b hb => by have := hI.bound b hb; omega, hI.out_lt, ?_, ?_, ?_⟩
 · intro j z q b g1 g2 g3
   rcases split g1 g2 (Blk.cU g3) with ⟨_, rfl, rfl⟩ | ⟨_, _, g1', g2'⟩
   · have := hI.baseO i x p b h1 hp (hox b g3); exact ⟨this.1, by omega⟩
   · have := hI.baseO j z q b g1' g2' g3; exact ⟨this.1, by omega⟩
 · intro j z q g1 g2
   cases hz : z.isLive with
   | false => cases z <;> simp_all [Blk.isLive, cS]
   | true =>
    rcases split g1 g2 hz with ⟨_, rfl, rfl⟩ | ⟨hij, _, g1', g2'⟩
    · exact hy hE
    · exact cS.ext hE (fun b hb => hh _ (fun e => hI.sepO i j x z p q b hij h1 g1' hp g2' hm (by rw [e]; exact Blk.iZ (Blk.bS hm)) hb)) (hI.ok j z q g1' g2')
 · intro j k z t q r b hjk g1 g2 g3 g4 g5 g6 g7
   rcases split g1 g3 (Blk.bS g5) with ⟨hj, rfl, rfl⟩ | ⟨hij, _, g1', g3'⟩
   · rcases split g2 g4 (Blk.cU g7) with ⟨hk, _, _⟩ | ⟨hik, _, g2', g4'⟩
     · omega
     · exact hI.sepO i k x t p r b hik h1 g2' hp g4' hm (hox b g6) g7
   · rcases split g2 g4 (Blk.cU g7) with ⟨hk, rfl, rfl⟩ | ⟨hik, _, g2', g4'⟩
     · exact hI.sepO j i z x q p b (fun e => hij e.symm) g1' h1 g3' hp g5 g6 (hox b g7)
     · exact hI.sepO j k z t q r b hjk g1' g2' g3' g4' g5 g6 g7
theorem Inv.move {out : Nat -> Prop} {B : Nat -> Prop} {w w' : World} {Z : List (Option PB)} {H : List Blk} (hI : Inv out B w Z H) {i : Nat} {x : Blk} {p : PB} (h1 : H[i]? = some x) (hp : Z[i]? = some (some p)) (hm : x.eh = true) (y : Blk) (p' : PB)
  {n : Nat} (hn : n <= H.length) (hf : ∀ q, Z[n]? ≠ some (some q))
  (hs : w.heap.size <= w'.heap.size) (hh : ∀ b, b < w.heap.size -> ¬ x.owns p b -> w'.heap[b]? = w.heap[b]?) (ho : w'.os = w.os) (ht : w'.tape = w.tape) (hu : w'.output = w.output) (hd : Dr.d = true -> w.drawn <= w'.drawn)
  (hox : ∀ b, y.owns p' b -> x.owns p b \/ (w.heap.size <= b /\ b < w'.heap.size))
  (hy : Ext B w w' (aH out Z H) (aH out (upd Z n (some p')) (upd (H.set i .dead) n y)) Z (upd Z n (some p')) -> cS w' (aH out (upd Z n (some p')) (upd (H.set i .dead) n y)) (upd Z n (some p')) p' y) :
  Ext B w w' (aH out Z H) (aH out (upd Z n (some p')) (upd (H.set i .dead) n y)) Z (upd Z n (some p')) /\ Inv out B w' (upd Z n (some p')) (upd (H.set i .dead) n y) := by
 have hl := hI.len
 have hn' : n <= (H.set i .dead).length := by simpa using hn
 have split : ∀ {j : Nat} {z : Blk} {q : PB}, (upd (H.set i .dead) n y)[j]? = some z -> (upd Z n (some p'))[j]? = some (some q) -> z.isLive = true -> (j = n /\ z = y /\ q = p') \/ (i ≠ j /\ j ≠ n /\ H[j]? = some z /\ Z[j]? = some (some q)) := by
  intro j z q g1 g2 g3
  rcases eO hn' g1 with ⟨rfl, rfl⟩ | ⟨hj, g1'⟩
  · rcases eO (by omega) g2 with ⟨_, e⟩ | ⟨hj', _⟩
    · cases e; exact .inl ⟨rfl, rfl, rfl⟩
    · exact (hj' rfl).elim
  · rcases eO (by omega) g2 with ⟨e, _⟩ | ⟨_, g2'⟩
    · exact (hj e).elim
    · rcases br g1' with ⟨rfl, rfl⟩ | ⟨hij, g1''⟩
      · simp [Blk.isLive] at g3
      · exact .inr ⟨hij, hj, g1'', g2'⟩
 have hE : Ext B w w' (aH out Z H) (aH out (upd Z n (some p')) (upd (H.set i .dead) n y)) Z (upd Z n (some p')) := by
  refine ⟨fun b hb => hh b (hI.bound b hb) (fun h => (hI.baseO i x p b h1 hp h).1 hb), hs, fun b hb hn0 => ?_, fun j q h => ?_, ho, ht, hu, hd⟩
  · refine ⟨hh b hb (fun h => hn0 (.inr ⟨i, x, p, h1, hm, hp, h⟩)), ?_⟩
    rintro (hb' | ⟨j, z, q, g1, g2, g3, g4⟩)
    · exact hn0 (.inl hb')
    · rcases split g1 g3 (Blk.bS g2) with ⟨_, rfl, rfl⟩ | ⟨_, _, g1', g3'⟩
      · rcases hox b g4 with h | h
        · exact hn0 (.inr ⟨i, x, p, h1, hm, hp, h⟩)
        · omega
      · exact hn0 (.inr ⟨j, z, q, g1', g2, g3', g4⟩)
  · rw [er (by omega), if_neg]
    · exact h
    · rintro rfl; exact hf q h
 refine ⟨hE, by rw [cJ (by omega), cJ hn', List.length_set, hl], fun b hb => by have := hI.bound b hb; omega, hI.out_lt, ?_, ?_, ?_⟩
 · intro j z q b g1 g2 g3
   rcases split g1 g2 (Blk.cU g3) with ⟨_, rfl, rfl⟩ | ⟨_, _, g1', g2'⟩
   · rcases hox b g3 with h | h
     · have := hI.baseO i x p b h1 hp h; exact ⟨this.1, by omega⟩
     · exact ⟨fun hb => by have := hI.bound b hb; omega, h.2⟩
   · have := hI.baseO j z q b g1' g2' g3; exact ⟨this.1, by omega⟩
 · intro j z q g1 g2
   cases hz : z.isLive with
   | false => cases z <;> simp_all [Blk.isLive, cS]
   | true =>
    rcases split g1 g2 hz with ⟨_, rfl, rfl⟩ | ⟨hij, _, g1', g2'⟩
    · exact hy hE
    · exact cS.ext hE (fun b hb => hh _ (hI.baseO j z q b g1' g2' hb).2 (fun e => hI.sepO i j x z p q b hij h1 g1' hp g2' hm e hb)) (hI.ok j z q g1' g2')
 · intro j k z t q r b hjk g1 g2 g3 g4 g5 g6 g7
   rcases split g1 g3 (Blk.bS g5) with ⟨hj, rfl, rfl⟩ | ⟨hij, _, g1', g3'⟩
   · rcases split g2 g4 (Blk.cU g7) with ⟨hk, _, _⟩ | ⟨hik, _, g2', g4'⟩
     · omega
     · rcases hox b g6 with h | h
       · exact hI.sepO i k x t p r b hik h1 g2' hp g4' hm h g7
       · have := (hI.baseO k t r b g2' g4' g7).2; omega
   · rcases split g2 g4 (Blk.cU g7) with ⟨hk, rfl, rfl⟩ | ⟨hik, _, g2', g4'⟩
     · rcases hox b g7 with h | h
       · exact hI.sepO j i z x q p b (fun e => hij e.symm) g1' h1 g3' hp g5 g6 h
       · have := (hI.baseO j z q b g1' g3' g6).2; omega
     · exact hI.sepO j k z t q r b hjk g1' g2' g3' g4' g5 g6 g7
theorem RvW.av {w : World} {mu : Nat -> Prop} {Z : List (Option PB)} : ∀ (rs : List RC) (ss : Nat -> Option (Nat × Nat × Nat)) (b o i : Nat) (A : AV), RvW w mu Z rs ss b o -> rs[i]? = some (.av A) -> ∃ v, w.cell? ⟨b, o + i, none⟩ = some v /\ v.oneCell' = true /\ Rv w mu Z A v
 | [], _, _, _, i, A, _, hc => by simp at hc
 | .row len es cs :: rs, ss, b, o, 0, A, h, hc => by simp at hc
 | .av A' :: rs, ss, b, o, 0, A, h, hc => by
  simp only [List.getElem?_cons_zero, Option.some.injEq, RC.av.injEq] at hc; subst hc; exact h.1
 | .row len es cs :: rs, ss, b, o, i + 1, A, h, hc => by
  have := RvW.av rs _ b (o + 1) i A h.2 (by simpa using hc)
  rwa [show o + 1 + i = o + (i + 1) by omega] at this
 | .av A' :: rs, ss, b, o, i + 1, A, h, hc => by
  have := RvW.av rs _ b (o + 1) i A h.2 (by simpa using hc)
  rwa [show o + 1 + i = o + (i + 1) by omega] at this
theorem RvW.row {w : World} {mu : Nat -> Prop} {Z : List (Option PB)} : ∀ (rs : List RC) (ss : Nat -> Option (Nat × Nat × Nat)) (b o i len es : Nat) (cs : List AV), RvW w mu Z rs ss b o -> rs[i]? = some (.row len es cs) -> ∃ v, w.cell? ⟨b, o + i, none⟩ = some v /\ jl w mu (ss i) len es cs v
 | [], _, _, _, i, _, _, _, _, hc => by simp at hc
 | .row len' es' cs' :: rs, ss, b, o, 0, len, es, cs, h, hc => by
  simp only [List.getElem?_cons_zero, Option.some.injEq, RC.row.injEq] at hc; obtain ⟨rfl, rfl, rfl⟩ := hc; exact h.1
 | .av A' :: rs, ss, b, o, 0, len, es, cs, h, hc => by simp at hc
 | .row len' es' cs' :: rs, ss, b, o, i + 1, len, es, cs, h, hc => by
  have := RvW.row rs _ b (o + 1) i len es cs h.2 (by simpa using hc)
  rwa [show o + 1 + i = o + (i + 1) by omega] at this
 | .av A' :: rs, ss, b, o, i + 1, len, es, cs, h, hc => by
  have := RvW.row rs _ b (o + 1) i len es cs h.2 (by simpa using hc)
  rwa [show o + 1 + i = o + (i + 1) by omega] at this
def RcV (w : World) (mu : Nat -> Prop) (Z : List (Option PB)) (s : Option (Nat × Nat × Nat)) : RC -> Value -> Prop
 | .row len es cs, v => jl w mu s len es cs v
 | .av A, v => v.oneCell' = true /\ Rv w mu Z A v
theorem RvW.of {w : World} {mu : Nat -> Prop} {Z : List (Option PB)} : ∀ (rs : List RC) (ss : Nat -> Option (Nat × Nat × Nat)) (b o : Nat), (∀ (i : Nat) (x : RC), rs[i]? = some x -> ∃ v, w.cell? ⟨b, o + i, none⟩ = some v /\ RcV w mu Z (ss i) x v) -> RvW w mu Z rs ss b o
 | [], _, _, _, _ => trivial
 | .row len es cs :: rs, ss, b, o, h => ⟨by simpa [RcV] using h 0 _ rfl, RvW.of rs _ b (o + 1) fun i x hx => by
   have := h (i + 1) x (by simpa using hx); rwa [show o + (i + 1) = o + 1 + i by omega] at this⟩
 | .av A :: rs, ss, b, o, h => ⟨by simpa [RcV] using h 0 _ rfl, RvW.of rs _ b (o + 1) fun i x hx => by
   have := h (i + 1) x (by simpa using hx); rwa [show o + (i + 1) = o + 1 + i by omega] at this⟩
theorem RvW.at {w : World} {mu : Nat -> Prop} {Z : List (Option PB)} {rs : List RC} {ss : Nat -> Option (Nat × Nat × Nat)} {b o : Nat} (h : RvW w mu Z rs ss b o) {i : Nat} {x : RC} (hx : rs[i]? = some x) : ∃ v, w.cell? ⟨b, o + i, none⟩ = some v /\ RcV w mu Z (ss i) x v := by
 cases x with
 | row len es cs => exact RvW.row rs ss b o i len es cs h hx
 | av A => obtain ⟨v, h1, h2, h3⟩ := RvW.av rs ss b o i A h hx; exact ⟨v, h1, h2, h3⟩
theorem RcV.one {w : World} {mu : Nat -> Prop} {Z : List (Option PB)} {s : Option (Nat × Nat × Nat)} {x : RC} {v : Value} (h : RcV w mu Z s x v) : v.oneCell' = true := by
 cases x with
 | row len es cs => rcases h with ⟨_, _, rfl⟩ | ⟨q, a, cap, c, e, _, rfl, _⟩ <;> rfl
 | av A => exact h.1
theorem RcV.ext {B : Nat -> Prop} {w w' : World} {mu mu' : Nat -> Prop} {Z Z' : List (Option PB)} (h : Ext B w w' mu mu' Z Z') {s : Option (Nat × Nat × Nat)} {x : RC} {v : Value} (hs : ∀ len es cs q, x = .row len es cs -> s = some q -> w'.heap[q.1]? = w.heap[q.1]?) (hv : RcV w mu Z s x v) : RcV w' mu' Z' s x v := by
 cases x with
 | row len es cs => exact jl.ext h (fun q e => hs len es cs q rfl e) hv
 | av A => exact ⟨hv.1, Rv.ext h A v hv.2⟩
theorem RvW.bound {w : World} {mu : Nat -> Prop} {Z : List (Option PB)} {rs : List RC} {ss : Nat -> Option (Nat × Nat × Nat)} {b o : Nat} {c : Array Value} {e : TypeId} {f : Nat × Nat} (h : RvW w mu Z rs ss b o) (hb : w.heap[b]? = some (.cells c e f)) {i : Nat} (hi : i < rs.length) :
  o + i < c.size := by
 obtain ⟨v, h1, _⟩ := RvW.at h (List.getElem?_eq_getElem hi)
 simp only [World.cell?, hb] at h1
 exact (Array.getElem?_eq_some_iff.1 (by simpa using h1)).1
theorem RvW.Ed {w : World} {mu : Nat -> Prop} {Z : List (Option PB)} {rs : List RC} {ss : Nat -> Option (Nat × Nat × Nat)} {b o : Nat} (h : RvW w mu Z rs ss b o) (n : Nat) (hn : n <= rs.length) :
  ∃ os : List Value, os.length = n /\ (∀ u ∈ os, u.oneCell' = true) /\ ∀ j u, os[j]? = some u -> w.cell? ⟨b, o + j, none⟩ = some u /\ ∃ x, rs[j]? = some x /\ RcV w mu Z (ss j) x u := by
 have key : ∀ j, j < n -> ∃ u, w.cell? ⟨b, o + j, none⟩ = some u /\ ∃ x, rs[j]? = some x /\ RcV w mu Z (ss j) x u := by
  intro j hj
  have hj' : j < rs.length := by omega
  obtain ⟨u, h1, h2⟩ := RvW.at h (List.getElem?_eq_getElem hj')
  exact ⟨u, h1, _, List.getElem?_eq_getElem hj', h2⟩
 have get : ∀ j u, ((List.range n).map fun j => (w.cell? ⟨b, o + j, none⟩).getD default)[j]? = some u -> w.cell? ⟨b, o + j, none⟩ = some u /\ ∃ x, rs[j]? = some x /\ RcV w mu Z (ss j) x u := by
  intro j u hu
  rw [List.getElem?_map] at hu
  cases hr : (List.range n)[j]? with
  | none => rw [hr] at hu; cases hu
  | some k =>
   have hjn : j < n := by have := aE hr; simpa using this
   rw [List.getElem?_range hjn] at hr
   cases hr
   obtain ⟨v, v1, v2⟩ := key j hjn
   rw [List.getElem?_range hjn, Option.map_some, v1] at hu
   cases hu
   exact ⟨v1, v2⟩
 refine ⟨(List.range n).map fun j => (w.cell? ⟨b, o + j, none⟩).getD default, by simp, fun u hu => ?_, get⟩
 obtain ⟨j, hj⟩ := List.getElem?_of_mem hu
 obtain ⟨_, x, _, hx⟩ := get j u hj
 exact hx.one
theorem Rv.lift {w : World} {mu : Nat -> Prop} {Z : List (Option PB)} {A : AV} {v : Value} (h : Rv w mu [] A v) : Rv w mu Z A v :=
 Rv.ext (B := fun _ => False) ⟨fun _ _ => rfl, Nat.le_refl _, fun _ _ h => ⟨rfl, h⟩, fun i p hp => by simp at hp, rfl, rfl, rfl, fun _ => Nat.le_refl _⟩ A v h
theorem RvC.lift {w : World} {mu : Nat -> Prop} {Z : List (Option PB)} {cs : List AV} {b o : Nat} (h : RvC w mu [] cs b o) : RvC w mu Z cs b o :=
 RvC.ext (B := fun _ => False) ⟨fun _ _ => rfl, Nat.le_refl _, fun _ _ h => ⟨rfl, h⟩, fun i p hp => by simp at hp, rfl, rfl, rfl, fun _ => Nat.le_refl _⟩ cs b o rfl h
end Go.Eng


namespace Go.Eng
open Go
variable [Dr]
def dD {α : Type} (P : Program) : Sem α -> Option α
 | .pure a => some a
 | .program k => dD P (k P)
 | .mark _ k => dD P k
 | _ => none
theorem eJ {α : Type} {P : Program} {s : Sem α} {a : α} (h : dD P s = some a) (w : World) : s.run P w = .ok a w := by
 induction s with
 | pure b => simp [dD] at h; subst h; rfl
 | program k ih => exact ih P (by simpa [dD] using h)
 | mark m k ih => exact ih (by simpa [dD] using h)
 | _ => simp [dD] at h
mutual
def toV : AV -> Option Value
 | .at v => some v
 | .agg cs => match uq cs with | some l => some (.agg l.toArray) | none => none
 | _ => none
def uq : List AV -> Option (List Value)
 | [] => some []
 | c :: cs => match toV c, uq cs with | some v, some l => some (v :: l) | _, _ => none
end
mutual
theorem fw {w : World} {mu : Nat -> Prop} {Z : List (Option PB)} : (A : AV) -> (v x : Value) -> Rv w mu Z A v -> toV A = some x -> v = x
 | .at y, v, x, h, e => by simp [toV] at e; subst e; exact h
 | .agg cs, v, x, h, e => by
  obtain ⟨vs, rfl, hvs⟩ := h
  simp only [toV] at e
  split at e
  · rename_i l hl
    cases e
    have := jQ cs vs.toList l hvs hl
    rw [<- this]
  · cases e
 | .unk, _, _, _, e | .sl .., _, _, _, e | .pp .., _, _, _, e | .hs .., _, _, _, e | .hc .., _, _, _, e | .hp .., _, _, _, e | .mp .., _, _, _, e | .tup .., _, _, _, e | .fn .., _, _, _, e => by simp [toV] at e
theorem jQ {w : World} {mu : Nat -> Prop} {Z : List (Option PB)} : (cs : List AV) -> (vs l : List Value) -> RvL w mu Z cs vs -> uq cs = some l -> vs = l
 | [], vs, l, h, e => by simp [uq] at e; subst e; exact h
 | c :: cs, vs, l, h, e => by
  obtain ⟨v, vs', rfl, h1, h2⟩ := h
  simp only [uq] at e
  split at e
  · rename_i y l' hy hl'
    cases e
    rw [fw c v y h1 hy, jQ cs vs' l' h2 hl']
  · cases e
end
def dM (P : Program) (t : TypeId) : Option Nat := match P.info? t with | some i => some i.size | none => none
def kd (P : Program) (t : TypeId) : Option Nat := match P.info? t with | some i => some i.bytes | none => none
def xS (P : Program) (t : TypeId) : Option Bool := match P.underlying t with | some (.struct _) => some true | some (.array _ _) => some true | some _ => some false | none => none
def iu (P : Program) (t : TypeId) : Option (List AV) := match P.info? t with | some i => (match i.zero with | some z => some (z.cells.toList.map .at) | none => none) | none => none
def cellsOf : AV -> List AV
 | .agg cs => cs
 | .at (.agg a) => a.toList.map .at
 | x => [x]
def eC : AV -> Bool
 | .unk | .agg _ | .tup _ => false
 | .at v => v.oneCell'
 | _ => true
theorem eF {w : World} {mu : Nat -> Prop} {Z : List (Option PB)} {A : AV} {v : Value} (h : Rv w mu Z A v) (hc : eC A = true) : v.oneCell' = true := by
 cases A <;> simp only [eC, Rv] at h hc
 case «at» x => subst h; exact hc
 case sl nl cs len => rcases h with ⟨_, _, _, rfl⟩ | ⟨b, o, cap, rfl, _⟩ | ⟨_, _, a, cap, rfl⟩ <;> rfl
 case pp cs off => obtain ⟨b, o, rfl, _⟩ := h; rfl
 case hs => rcases h with ⟨_, rfl⟩ | ⟨p, a, cap, _, rfl, _⟩ <;> rfl
 case hc => obtain ⟨p, _, _, rfl, _⟩ := h; rfl
 case hp => obtain ⟨p, _, rfl⟩ := h; rfl
 case mp => obtain ⟨p, _, rfl⟩ := h; rfl
 case fn => obtain ⟨a, c, rfl, _⟩ := h; rfl
 all_goals simp at hc
theorem dW {w : World} {mu : Nat -> Prop} {Z : List (Option PB)} : ∀ (l : List Value), RvL w mu Z (l.map .at) l
 | [] => rfl
 | v :: l => ⟨v, l, rfl, rfl, dW l⟩
theorem je {w : World} {mu : Nat -> Prop} {Z : List (Option PB)} {A : AV} {v : Value} (h : Rv w mu Z A v) (hc : (cellsOf A).all eC = true) :
  RvL w mu Z (cellsOf A) v.cells.toList /\ ∀ u ∈ v.cells.toList, u.oneCell' = true := by
 have key : RvL w mu Z (cellsOf A) v.cells.toList := by
  have one : ∀ {A : AV} {v : Value}, Rv w mu Z A v -> v.oneCell' = true -> RvL w mu Z [A] v.cells.toList := by
   intro A v h h1
   have hv : v.cells = #[v] := by cases v <;> simp_all [Value.cells, Value.oneCell']
   rw [hv]; exact ⟨v, [], rfl, h, rfl⟩
  cases A with
  | agg cs => obtain ⟨vs, rfl, h2⟩ := h; exact h2
  | «at» x =>
   cases x with
   | agg a => cases h; exact dW a.toList
   | _ => exact one h (eF h (by simpa [cellsOf] using hc))
  | unk => simp [cellsOf, eC] at hc
  | tup => simp [cellsOf, eC] at hc
  | sl nl cs len => exact one h (eF h rfl)
  | pp => exact one h (eF h rfl)
  | hs => exact one h (eF h rfl)
  | hc => exact one h (eF h rfl)
  | hp => exact one h (eF h rfl)
  | mp => exact one h (eF h rfl)
  | fn => exact one h (eF h rfl)
 refine ⟨key, ?_⟩
 generalize cellsOf A = cs at *
 generalize v.cells.toList = vs at *
 clear h
 induction cs generalizing vs with
 | nil => cases key; simp
 | cons c cs ih =>
  obtain ⟨u, us, rfl, h1, h2⟩ := key
  simp only [List.all_cons, Bool.and_eq_true] at hc
  intro x hx
  rcases List.mem_cons.1 hx with rfl | hx
  · exact eF h1 hc.1
  · exact ih hc.2 us h2 x hx
def setCells : List AV -> Nat -> List AV -> List AV
 | cs, _, [] => cs
 | cs, off, x :: xs => setCells (cs.set off x) (off + 1) xs
def nw (place : Nat -> Option (Nat × Nat)) (cells : List AV) : List (Nat × AV) -> Option (List AV)
 | [] => some cells
 | (i, x) :: rest =>
  match place i with
  | none => none
  | some (off, size) =>
   match decide ((cellsOf x).length = size) && decide (off + (cellsOf x).length <= cells.length) && (cellsOf x).all eC with
   | true => nw place (setCells cells off (cellsOf x)) rest
   | false => none
def lU (P : Program) (t : TypeId) (cs : List AV) (off : Nat) : Option AV :=
 match xS P t with
 | some true => (match dM P t with | some n => some (.agg ((cs.drop off).take n)) | none => none)
 | some false => cs[off]?
 | none => none
def rq : Option RC -> Option AV
 | some (.av A) => some A
 | _ => none
def cellAt (H : List Blk) : AV -> Option AV
 | .hp i off => match H[i]? with | some (.own cs) => cs[off]? | some (.fix cs) => cs[off]? | some (.rows rs) => rq rs[off]? | _ => none
 | .pp cs off => cs[off]?
 | _ => none
def jL (H : List Blk) : AV -> Option (List AV)
 | .hp i off => match H[i]? with | some (.own cs) => some (cs.drop off) | some (.fix cs) => some (cs.drop off) | _ => none
 | .pp cs off => some (cs.drop off)
 | _ => none
def sg (P : Program) (H : List Blk) (t : TypeId) (a : AV) : Option AV :=
 match xS P t with
 | some true => (match dM P t, jL H a with | some n, some cs => (match decide (n <= cs.length) with | true => some (.agg (cs.take n)) | false => none) | _, _ => none)
 | some false => cellAt H a
 | none => none
def tL (P : Program) (H : List Blk) (t : TypeId) (a x : AV) : Option (List (Nat × Blk)) :=
 match a with
 | .hp i off => match H[i]?, dM P t with
  | some (.own cs), some n => (match decide ((cellsOf x).length = n) && decide (off + n <= cs.length) && (cellsOf x).all eC with | true => some [(i, .own (setCells cs off (cellsOf x)))] | false => none)
  | some (.rows rs), some n => (match cellsOf x with | [y] => (match decide (n = 1) && decide (off < rs.length) && eC y with | true => some [(i, .rows (rs.set off (.av y)))] | false => none) | _ => none)
  | _, _ => none
 | _ => none
def gv (H : List Blk) (es : Nat) : AV -> Option (List AV × Nat)
 | .at (.slice none 0 0) => some ([], 0)
 | .sl _ cs len => (match decide (cs.length = len * es) with | true => some (cs, len) | false => none)
 | .hs i off len _ => match H[i]? with
  | some (.own cs) => (match decide (off + len * es <= cs.length) with | true => some ((cs.drop off).take (len * es), len) | false => none)
  | some (.fix cs) => (match decide (off + len * es <= cs.length) with | true => some ((cs.drop off).take (len * es), len) | false => none)
  | _ => none
 | _ => none
def rO : AV -> Option Int | .at (.int _ n) => some n | _ => none
def tU : AV -> Option (IntKind × Int) | .at (.int k n) => some (k, n) | _ => none
def xp (n : Nat) : AV -> Option AV
 | .hp i off => some (.hp i (off + n))
 | .pp cs off => some (.pp cs (off + n))
 | _ => none
def nZ (P : Program) (t : TypeId) (x ix : AV) : Option AV :=
 match P.underlying t, rO ix with
 | some (.slice e), some i => (match dM P e, x with
  | some n, .sl _ cs len => (match decide (0 <= i) && decide (i < len) with | true => some (.pp cs (i.toNat * n)) | false => none)
  | some n, .hs b off len _ => (match decide (0 <= i) && decide (i < len) with | true => some (.hp b (off + i.toNat * n)) | false => none)
  | _, _ => none)
 | some (.array len e), some i => (match dM P e with
  | some n => (match decide (0 <= i) && decide (i < len) with | true => xp (i.toNat * n) x | false => none)
  | none => none)
 | _, _ => none
def nI (P : Program) (s : TypeId) (x : AV) (f : Nat) : Option AV :=
 match P.underlying s with
 | some (.struct fs) => (match fs[f]? with
  | some fd => (match dM P fd.type with | some 0 => none | some _ => xp fd.offset x | none => none)
  | none => none)
 | _ => none
def vK (P : Program) (s : TypeId) (x : AV) (f : Nat) : Option AV :=
 match P.underlying s, x with
 | some (.struct fs), .agg cs => (match fs[f]? with | some fd => lU P fd.type cs fd.offset | none => none)
 | some (.struct fs), .at (.agg a) => (match fs[f]? with | some fd => lU P fd.type (a.toList.map .at) fd.offset | none => none)
 | _, _ => none
def rE (P : Program) (t : TypeId) (x ix : AV) : Option AV :=
 match P.underlying t, x, rO ix with
 | some (.array len e), .agg cs, some i => (match dM P e, decide (0 <= i) && decide (i < len) with | some n, true => lU P e cs (i.toNat * n) | _, _ => none)
 | some (.array len e), .at (.agg a), some i => (match dM P e, decide (0 <= i) && decide (i < len) with | some n, true => lU P e (a.toList.map .at) (i.toNat * n) | _, _ => none)
 | some .string, .at s, some _ => (match toV ix with | some i => (dD P (Instr.index t s i)).map .at | none => none)
 | _, _, _ => none
def lN (len : Nat) (lo hi : Option AV) : Option (Nat × Nat) :=
 match (match lo with | none => some 0 | some a => rO a), (match hi with | none => some (len : Int) | some a => rO a) with
 | some l, some h => (match decide (0 <= l) && decide (l <= h) && decide (h <= len) with | true => some (l.toNat, h.toNat) | false => none)
 | _, _ => none
def pA (P : Program) (H : List Blk) (t : TypeId) (x : AV) (lo hi : Option AV) : Option AV :=
 match P.underlying t with
 | some (.slice e) => (match dM P e, x with
  | some n, .sl nl cs len => (match lN len lo hi with | some (l, h) => some (.sl nl ((cs.drop (l * n)).take ((h - l) * n)) (h - l)) | none => none)
  | some n, .hs b off len es => (match lN len lo hi, decide (es = n) with | some (l, h), true => some (.hs b (off + l * n) (h - l) n) | _, _ => none)
  | some _, .at (.slice none 0 0) => (match lN 0 lo hi with | some _ => some (.at (.slice none 0 0)) | none => none)
  | _, _ => none)
 | some (.array len e) => (match dM P e, x with
  | some n, .hp b off => (match lN len lo hi, H[b]? with
   | some (l, h), some (.own cs) => (match decide (off + len * n <= cs.length) && decide (0 < n) with | true => some (.hs b (off + l * n) (h - l) n) | false => none)
   | _, _ => none)
  | some n, .pp cs off => (match lN len lo hi with | some (l, h) => some (.sl false ((cs.drop (off + l * n)).take ((h - l) * n)) (h - l)) | none => none)
  | _, _ => none)
 | _ => none
def cN (z : List AV) : Nat -> List AV
 | 0 => []
 | n + 1 => z ++ cN z n
def tq (P : Program) (t : TypeId) (a : AV) (v : Value) : Bool :=
 match P.underlying t, a, v with
 | some (.slice _), .sl nl _ len, .slice none 0 0 => !nl || decide (0 < len)
 | some (.slice _), .hs _ _ len _, .slice none 0 0 => decide (0 < len)
 | some (.pointer _), .hp _ _, .pointer none => true
 | some (.pointer _), .pp _ _, .pointer none => true
 | _, _, _ => false
inductive bc where
 | pure (v : AV)
 | eff (v : AV) (ws : List (Nat × Blk))
 | call (f : FuncId) (args : List AV)
def bc.ofP : Option AV -> Option bc | some v => some (.pure v) | none => none
def aO (H : List Blk) : List (Nat × Blk) -> List Blk
 | [] => H
 | (i, x) :: ws => aO (upd H i x) ws
def fX (H : List Blk) (nid n bytes : Nat) (s x : AV) : Option bc :=
 match gv H n x with
 | none => none
 | some (new, m) =>
  match s with
  | .at (.slice none 0 0) => (match decide (m * bytes <= 140737488355328) && decide (m <= 4611686018427387904) && decide (0 < n) with
   | true => some (.eff (.hs nid 0 m n) [(nid, .own new)])
   | false => none)
  | .sl nl cs len => (match decide (m = 0) with | true => some (.pure (.sl nl cs len)) | false => none)
  | .hs i off len es => match H[i]? with
   | some (.own cs) => (match decide (es = n) && decide (0 < n) && decide (off + len * n <= cs.length) && decide ((len + m) * bytes <= 140737488355328) && decide (len + m <= 4611686018427387904) with
    | true => some (.eff (.hs nid 0 (len + m) n) [(i, .dead), (nid, .own ((cs.drop off).take (len * n) ++ new))])
    | false => none)
   | some (.rows rs) => (match decide (es = n) && decide (n = 1) && decide (off = 0) && decide (len <= rs.length) && decide ((len + m) * bytes <= 140737488355328) && decide (len + m <= 4611686018427387904) && decide (0 < m) with
    | true => some (.eff (.hs nid 0 (len + m) n) [(i, .dead), (nid, .rows (rs.take len ++ new.map .av))])
    | false => none)
   | _ => none
  | .hc i off len cap es => match H[i]? with
   | some (.own cs) => (match decide (es = n) && decide (0 < n) && decide (0 < m) && decide (off = 0) && decide (len * n <= cs.length) && decide ((len + m) * bytes <= 140737488355328) && decide (len + m <= 4611686018427387904) with
    | true => (match decide (len + m <= cap) with
     | true => some (.eff (.hs i 0 (len + m) n) [(i, .own (cs.take (len * n) ++ new))])
     | false => some (.eff (.hs nid 0 (len + m) n) [(nid, .own (cs.take (len * n) ++ new))]))
    | false => none)
   | _ => none
  | _ => none
def oF (nid n bytes : Nat) (z : List AV) (s x : AV) : Option bc :=
 match s, x with
 | .at (.slice none 0 0), .at (.int .i64 k) => (match decide (0 < k) && decide (k <= 4611686018427387904) && decide (k.toNat * bytes <= 140737488355328) && decide (0 < n) && decide (z.length = n) && z.all eC with
  | true => some (.eff (.hs nid 0 k.toNat n) [(nid, .own (cN z k.toNat))])
  | false => none)
 | _, _ => none
def wkN (a : AV) : AV :=
 match a with
 | .at (.slice none 0 0) => .sl true [] 0
 | _ => a
def n5 (H : List Blk) (n : Nat) (z : List AV) (d : AV) : Option bc :=
 match d with
 | .hs i off len es => (match H[i]? with
  | some (.own cs) => (match decide (es = n) && decide (off + len * n <= cs.length) && decide (z.length = n) && z.all eC && decide (0 < n) with
   | true => some (.eff (.at (.tuple #[])) [(i, .own (setCells cs off (cN (z.map wkN) len)))])
   | false => none)
  | _ => none)
 | _ => none
def Cn (P : Program) (t : TypeId) (x : AV) : Option AV :=
 match P.underlying t, x with
 | some (.slice _), .sl _ _ len => some (.at (.int .i64 len))
 | some (.slice _), .hs _ _ len _ => some (.at (.int .i64 len))
 | some (.slice _), .at (.slice none 0 0) => some (.at (.int .i64 0))
 | some .string, .at (.string s) => some (.at (.int .i64 s.size))
 | some (.array n _), _ => some (.at (.int .i64 n))
 | _, _ => none
def tQ : IntKind -> Int -> Bool
 | .i64, n => decide (-9223372036854775808 <= n) && decide (n <= 9223372036854775807)
 | .u64, n => decide (0 <= n) && decide (n <= 18446744073709551615)
 | .u32, n => decide (0 <= n) && decide (n <= 4294967295)
 | .u8, n => decide (0 <= n) && decide (n <= 255)
 | _, _ => false
def ae (k : IntKind) (n : Int) : Int := match tQ k n with | true => n | false => k.wrap n
abbrev Ew (n : Int) : Int := ae IntKind.i64 n
theorem fh (k : IntKind) (n : Int) : ae k n = k.wrap n := by
 (try unfold Ew); unfold ae
 split
 · rename_i h
   cases k <;> simp only [tQ, Bool.and_eq_true, decide_eq_true_eq, Bool.false_eq_true] at h
   · rw [IntKind.wrap_i64]; omega
   · rw [IntKind.wrap_u8]; omega
   · rw [IntKind.wrap_u32]; omega
   · rw [IntKind.wrap_u64]; omega
 · rfl
def oW (op : BinOp) (k : IntKind) (x y : Int) : Option Value :=
 match op with
 | .add => some (.int k (ae k (x + y)))
 | .sub => some (.int k (ae k (x - y)))
 | .mul => some (.int k (ae k (x * y)))
 | .quo => (match decide (y = 0) with | true => none | false => some (.int k (ae k (x.tdiv y))))
 | .rem => (match decide (y = 0) with | true => none | false => some (.int k (x.tmod y)))
 | .eql => some (.bool (x == y))
 | .neq => some (.bool (x != y))
 | .lss => some (.bool (decide (x < y)))
 | .leq => some (.bool (decide (x <= y)))
 | .gtr => some (.bool (decide (x > y)))
 | .geq => some (.bool (decide (x >= y)))
 | _ => none
theorem tI {P : Program} {op : BinOp} {t : TypeId} {a b : Operand} {k : IntKind} {x y : Int} {v : Value} (h : oW op k x y = some v) (w : World) :
  (do eqGuard op t a b (.int k x) (.int k y); binOp op t (.int k x) (.int k y) : Sem Value).run P w = .ok v w := by
 have hg : (eqGuard op t a b (.int k x) (.int k y)).run P w = .ok () w := by cases op <;> simp [eqGuard]
 simp only [Sem.run_bind, hg, Result.andThen_ok]
 cases op <;> simp only [oW] at h
 case add => cases h; simp [binOp, Op.intArith, fh]
 case sub => cases h; simp [binOp, Op.intArith, fh]
 case mul => cases h; simp [binOp, Op.intArith, fh]
 case quo =>
  split at h
  · cases h
  · rename_i h0
    cases h
    have : ¬ y = 0 := by simpa using h0
    simp [binOp, Op.intDiv, this, fh]
 case rem =>
  split at h
  · cases h
  · rename_i h0
    cases h
    have : ¬ y = 0 := by simpa using h0
    simp [binOp, Op.intDiv, this]
 case eql => cases h; simp [binOp, Op.intCmp]
 case neq => cases h; simp [binOp, Op.intCmp]
 case lss => cases h; simp [binOp, Op.intCmp]
 case leq => cases h; simp [binOp, Op.intCmp]
 case gtr => cases h; simp [binOp, Op.intCmp]
 case geq => cases h; simp [binOp, Op.intCmp]
 all_goals cases h
def na (P : Program) (op : BinOp) (t : TypeId) (x y : Operand) (a b : AV) : Option AV :=
 match toV a, toV b with
 | some u, some v => (match dD P (do eqGuard op t x y u v; binOp op t u v) with | some r => some (.at r) | none => none)
 | none, some v => (match tq P t a v, op with
  | true, .eql => some (.at (.bool false))
  | true, .neq => some (.at (.bool true))
  | _, _ => none)
 | _, _ => none
def IntKind.nk : IntKind -> IntKind -> Bool
 | .i64, .i64 | .u64, .u64 | .u32, .u32 | .u8, .u8 | .i32, .i32 | .i16, .i16 | .i8, .i8 | .u16, .u16 => true
 | _, _ => false
theorem IntKind.ko {k l : IntKind} (h : IntKind.nk k l = true) : k = l := by cases k <;> cases l <;> simp_all [IntKind.nk]
def rS : AV -> Option (List AV)
 | .agg cs => some cs
 | .at (.agg a) => some (a.toList.map .at)
 | _ => none
def uN (P : Program) (f : TypeId -> AV -> AV -> Option Bool) (xs ys : List AV) : List Field -> Option Bool
 | [] => some true
 | g :: fs => match decide (g.name = "_") with
  | true => uN P f xs ys fs
  | false => match lU P g.type xs g.offset, lU P g.type ys g.offset with
   | some a, some b => (match f g.type a b, uN P f xs ys fs with | some r, some s => some (r && s) | _, _ => none)
   | _, _ => none
def wu (P : Program) (f : AV -> AV -> Option Bool) (e : TypeId) (n : Nat) (xs ys : List AV) : Nat -> Nat -> Option Bool
 | 0, _ => some true
 | m + 1, i => match lU P e xs (i * n), lU P e ys (i * n) with
  | some a, some b => (match f a b, wu P f e n xs ys m (i + 1) with | some r, some s => some (r && s) | _, _ => none)
  | _, _ => none
def pa (P : Program) : Nat -> TypeId -> AV -> AV -> Option Bool
 | 0, _, _, _ => none
 | d + 1, t, a, b => match P.underlying t with
  | some (.int _) => (match a, b with | .at (.int k x), .at (.int k' y) => (match IntKind.nk k k' with | true => some (x == y) | false => none) | _, _ => none)
  | some .bool => (match a, b with | .at (.bool x), .at (.bool y) => some (x == y) | _, _ => none)
  | some (.struct fs) => (match P.stoodInHeld t, rS a, rS b with | false, some xs, some ys => uN P (pa P d) xs ys fs.toList | _, _, _ => none)
  | some (.array n e) => (match dM P e, rS a, rS b with | some k, some xs, some ys => wu P (pa P d e) e k xs ys n 0 | _, _, _ => none)
  | _ => none
def tO (P : Program) (op : BinOp) (t : TypeId) (a b : AV) : Option AV :=
 match op, P.eqGuardType P.depth t, rS a, rS b with
 | .eql, false, some _, some _ => (match pa P 8 t a b with | some r => some (.at (.bool r)) | none => none)
 | .neq, false, some _, some _ => (match pa P 8 t a b with | some r => some (.at (.bool (!r))) | none => none)
 | _, _, _, _ => none
def lI (P : Program) (op : BinOp) (t : TypeId) (x y : Operand) (a b : AV) : Option AV :=
 match a, b with
 | .at (.int k m), .at (.int k' n) => (match IntKind.nk k k' with
  | true => (match oW op k m n with | some r => some (.at r) | none => na P op t x y (.at (.int k m)) (.at (.int k' n)))
  | false => na P op t x y (.at (.int k m)) (.at (.int k' n)))
 | .agg cs, b => tO P op t (.agg cs) b
 | .at (.agg v), .agg cs => tO P op t (.at (.agg v)) (.agg cs)
 | a, b => na P op t x y a b
def yq (P : Program) (src dst : TypeId) (a : AV) : Option Value :=
 match a with
 | .at (.int _ n) => (match P.underlying src, P.underlying dst with
  | some _, some (.int k) => some (.int k (ae k n))
  | _, _ => none)
 | _ => none
def zE (t : Bool) : AV -> AV -> AV
 | .at (.bool x), .at (.bool y) => .at (.bool (if t then x else y))
 | a, b => if t then a else b
def zH (f : Value -> Option Value) (a : AV) : Option bc :=
 match toV a with
 | some v => (match f v with | some r => some (.pure (.at r)) | none => none)
 | none => none
def qR (H : List Blk) (n : Nat) (d x : AV) : Option bc :=
 match gv H n x with
 | none => none
 | some (new, m) => match d with
  | .hs i off len es => (match H[i]? with
   | some (.own cs) => (match decide (es = n) && decide (off + len * n <= cs.length) with
    | true => some (.eff (.at (.int .i64 (Nat.min m len : Nat))) [(i, .own (setCells cs off (new.take (Nat.min m len * n))))])
    | false => none)
   | _ => none)
  | _ => none
def yC (P : Program) (H : List Blk) (t : TypeId) (x : AV) : Option AV :=
 match P.underlying t, x with
 | some (.map _ _), .mp i => (match H[i]? with | some (.map es) => some (.at (.int .i64 (es.length : Nat))) | _ => none)
 | _, _ => none
def jr (P : Program) (H : List Blk) (nid : Nat) (b : Builtin) (argTypes : Array TypeId) (type : TypeId) (args : List AV) : Option bc :=
 match b, args with
 | .len, [x] => (match argTypes[0]? with | some t => (match Cn P t x with | some v => some (.pure v) | none => bc.ofP (yC P H t x)) | none => none)
 | .append, [s, x] => (match argTypes[0]?, argTypes[1]? with
  | some t, some t' => (match P.underlying t, P.underlying t' with
   | some (.slice e), some (.slice _) => (match dM P e, kd P e, iu P e with | some n, some by_, some z => (match decide (z.length = n) with | true => fX H nid n by_ s x | false => none) | _, _, _ => none)
   | some (.slice e), some (.int _) => (match dM P e, kd P e, iu P e with | some n, some by_, some z => oF nid n by_ z s x | _, _, _ => none)
   | _, _ => none)
  | _, _ => none)
 | .copy, [d, x] => (match argTypes[0]? with
  | some t => (match P.underlying t with
   | some (.slice e) => (match dM P e with | some n => qR H n d x | none => none)
   | _ => none)
  | none => none)
 | .clear, [d] => (match argTypes[0]? with
  | some t => (match P.underlying t with
   | some (.slice e) => (match dM P e, iu P e with | some n, some z => n5 H n z d | _, _ => none)
   | _ => none)
  | none => none)
 | .cap, args => (match uq args with | some vs => (match dD P (Builtin.cap_ argTypes type vs.toArray) with | some r => some (.pure (.at r)) | none => none) | none => none)
 | .min, args => (match uq args with | some vs => (match dD P (Builtin.min_ argTypes type vs.toArray) with | some r => some (.pure (.at r)) | none => none) | none => none)
 | .max, args => (match uq args with | some vs => (match dD P (Builtin.max_ argTypes type vs.toArray) with | some r => some (.pure (.at r)) | none => none) | none => none)
 | _, _ => none
def mW (P : Program) : List Field -> Option (List (Nat × Nat))
 | [] => some []
 | f :: fs => match dM P f.type, mW P fs with | some n, some l => some ((f.offset, n) :: l) | _, _ => none
def qJ (P : Program) (f : FuncId) : Bool := match P.funcs[f]? with | some fn => fn.body.isSome | none => false
def rl (ρ : Operand -> AV) (c : Operand) (a : Operand) (b : Operand) : Option bc :=
 (match ρ c with | .at (.bool t) => some (.pure (zE t (ρ a) (ρ b))) | _ => none)
def mX (P : Program) (nid : Nat) (t : TypeId) : Option bc :=
 (match iu P t with
  | some z => (match z.all eC with | true => some (.eff (.hp nid 0) [(nid, .own z)]) | false => none)
  | none => none)
def sG (ρ : Operand -> AV) (nid : Nat) (x : Operand) : Option bc :=
 (match (cellsOf (ρ x)).all eC with | true => some (.eff (.hp nid 0) [(nid, .own (cellsOf (ρ x)))]) | false => none)
def og (P : Program) (ρ : Operand -> AV) (t : TypeId) (parts : Array (Nat × Operand)) : Option bc :=
 (match iu P t, P.underlying t with
  | some z, some (.struct fs) => (match mW P fs.toList with
   | some pl => (match z.all eC with | true => (match nw (fun i => pl[i]?) z (parts.toList.map fun p => (p.1, ρ p.2)) with | some cs => some (.pure (.agg cs)) | none => none) | false => none)
   | none => none)
  | some z, some (.array _ e) => (match dM P e with
   | some n => (match z.all eC with | true => (match nw (fun i => some (i * n, n)) z (parts.toList.map fun p => (p.1, ρ p.2)) with | some cs => some (.pure (.agg cs)) | none => none) | false => none)
   | none => none)
  | _, _ => none)
def gF (P : Program) (ρ : Operand -> AV) (nid : Nat) (t : TypeId) (len : Nat) (parts : Array (Nat × Operand)) : Option bc :=
 (match P.underlying t with
  | some (.slice e) => (match dM P e, iu P e with
   | some n, some z => (match decide (len * n <= 16777216) && decide (z.length = n) && z.all eC with
    | true => (match nw (fun i => some (i * n, n)) (cN z len) (parts.toList.map fun p => (p.1, ρ p.2)) with
     | some cs => some (.eff (.hs nid 0 len n) [(nid, .own cs)]) | none => none)
    | false => none)
   | _, _ => none)
  | _ => none)
def oy (P : Program) (ρ : Operand -> AV) (H : List Blk) (t : TypeId) (a : Operand) (x : Operand) : Option bc :=
 (match tL P H t (ρ a) (ρ x) with | some ws => some (.eff .unk ws) | none => none)
def kf (ρ : Operand -> AV) (x : Operand) : Option bc :=
 (match ρ x with | .hp b off => some (.pure (.hp b off)) | .pp cs off => some (.pure (.pp cs off)) | .fn f a c => some (.pure (.fn f a c)) | _ => none)
def lu (P : Program) (ρ : Operand -> AV) (src : TypeId) (dst : TypeId) (x : Operand) : Option bc :=
 (match yq P src dst (ρ x) with | some v => some (.pure (.at v)) | none => zH (fun v => dD P (convert src dst v)) (ρ x))
def iv (P : Program) (ρ : Operand -> AV) (nid : Nat) (t : TypeId) (l : Operand) (c : Operand) : Option bc :=
 (match P.underlying t, tU (ρ l), tU (ρ c) with
  | some (.slice e), some (_, l), some (_, c) => (match dM P e, kd P e, iu P e with
   | some n, some by_, some z => (match decide (0 <= l) && decide (l <= c) && decide ((by_ : Int) * c <= 281474976710656) && decide (c <= 9223372036854775807) && decide (z.length = n) && decide (0 < n) && z.all eC with
    | true => some (.eff (.hs nid 0 l.toNat n) [(nid, .own (cN z c.toNat))])
    | false => none)
   | _, _, _ => none)
  | _, _, _ => none)
def oP (P : Program) (ρ : Operand -> AV) (H : List Blk) (t : TypeId) (x : Operand) (lo : Option Operand) (hi : Option Operand) : Option bc :=
 (match ρ x with
  | .at (.string s) => (match (match lo with | none => some none | some a => (toV (ρ a)).map some), (match hi with | none => some none | some a => (toV (ρ a)).map some) with
   | some l, some h => (match dD P (Instr.sliceAt t (.string s) l h none) with | some r => some (.pure (.at r)) | none => none)
   | _, _ => none)
  | y => bc.ofP (pA P H t y (lo.map ρ) (hi.map ρ)))
def o9 (P : Program) (ρ : Operand -> AV) (H : List Blk) (nid : Nat) (c : Call) (oty : TypeId) : Option bc :=
 (match c.callee with
  | .value f => (match ρ f with
   | .fn g fs cs => (match qJ P g with | true => some (.call g (fs ++ c.args.toList.map ρ ++ cs)) | false => none)
   | _ => none)
  | .builtin b => jr P H nid b c.argTypes oty (c.args.toList.map ρ)
  | _ => none)
def lR : List Value -> List Value -> Option Bool
 | [], [] => some true
 | .int k x :: l, .int k' y :: l' => (match IntKind.nk k k', lR l l' with | true, some r => some (x == y && r) | _, _ => none)
 | _, _ => none
def kEq : Value -> Value -> Option Bool
 | .agg a, .agg b => lR a.toList b.toList
 | .int k x, .int k' y => (match IntKind.nk k k' with | true => some (x == y) | false => none)
 | .bool x, .bool y => some (x == y)
 | _, _ => none
def kG (P : Program) (e : TypeId) : Bool := match P.underlying e, dM P e with | some (.int _), some n => Nat.beq n 1 | _, _ => false
def pd (P : Program) : List Field -> Nat -> Bool
 | [], _ => true
 | f :: fs, i => !decide (f.name = "_") && Nat.beq f.offset i && kG P f.type && pd P fs (i + 1)
def oL : List Value -> Bool | [] => true | .int .. :: l => oL l | _ => false
def jG (P : Program) (t : TypeId) (a : Array Value) : Bool := match P.underlying t with
 | some (.array n e) => kG P e && Nat.beq a.size n && oL a.toList
 | some (.struct fs) => pd P fs.toList 0 && Nat.beq a.size fs.toList.length && oL a.toList && !P.stoodInHeld t
 | _ => false
def dV (P : Program) (t : TypeId) (v : Value) : Bool := match P.underlying t, v with | some (.int k), .int k' _ => IntKind.nk k k' | some .bool, .bool _ => true | some _, .agg a => jG P t a | _, _ => false
def gA (k : Value) : List (Value × AV) -> Nat -> Option (Option (Nat × AV))
 | [], _ => some none
 | (k', A) :: es, i => (match kEq k k' with | some true => some (some (i, A)) | some false => gA k es (i + 1) | none => none)
def oD (P : Program) (e : TypeId) : Option AV := match P.info? e with | some i => (match i.zero with | some (.agg a) => some (.agg (a.toList.map .at)) | some v => some (.at v) | none => none) | none => none
def fO (H : List Blk) (x : AV) : Option (Nat × List (Value × AV)) := match x with | .mp b => (match H[b]? with | some (.map es) => some (b, es) | _ => none) | _ => none
def dj (P : Program) (H : List Blk) (t : TypeId) (x ix : AV) (ok : Bool) : Option AV :=
 match P.underlying t, fO H x, toV ix with
 | some (.map kt e), some (_, es), some k => (match dV P kt k, oD P e, gA k es 0 with
  | true, some _, some (some (_, A)) => some (match ok with | true => .tup [A, .at (.bool true)] | false => A)
  | true, some z, some none => some (match ok with | true => .tup [z, .at (.bool false)] | false => z)
  | _, _, _ => none)
 | _, _, _ => none
def fA (P : Program) (H : List Blk) (t : TypeId) (m k v : AV) : Option bc :=
 match P.underlying t, fO H m, toV k with
 | some (.map kt _), some (b, es), some k => (match dV P kt k, gA k es 0 with
  | true, some (some (i, _)) => some (.eff .unk [(b, .map (es.set i (k, v)))])
  | true, some none => some (.eff .unk [(b, .map (es ++ [(k, v)]))])
  | _, _ => none)
 | _, _, _ => none
def eR (P : Program) (H : List Blk) (t : TypeId) (m k : AV) : Option bc :=
 match P.underlying t, fO H m, toV k with
 | some (.map kt e), some (b, es), some k => (match dV P kt k, oD P e, gA k es 0 with
  | true, some _, some (some (i, A)) => some (.eff (.tup [A, .at (.int .i64 i)]) [(b, .map (es.set i (k, A)))])
  | true, some z, some none => some (.eff (.tup [z, .at (.int .i64 es.length)]) [(b, .map (es ++ [(k, z)]))])
  | _, _, _ => none)
 | _, _, _ => none
def dv (H : List Blk) (m s v : AV) : Option bc :=
 match fO H m, rO s with
 | some (b, es), some i => (match decide (0 <= i), es[i.toNat]? with | true, some (k, _) => some (.eff .unk [(b, .map (es.set i.toNat (k, v)))]) | _, _ => none)
 | _, _ => none
def jS (H : List Blk) (x : AV) : Option (Nat × Nat × Nat × List (Value × RC)) := match x with | .mp b => (match H[b]? with | some (.mapr d ez l) => some (b, d, ez, l) | _ => none) | _ => none
def rK (l : List (Value × RC)) (i : Nat) : Option (Value × AV) := match l[i]? with | some (k, .av A) => some (k, A) | _ => none
def fy (P : Program) (H : List Blk) (t : TypeId) (m k : AV) : Option bc :=
 match P.underlying t, jS H m, toV k with
 | some (.map kt e), some (b, d, ez, l), some k => (match dV P kt k, oD P e, gA k (l.map rcE) 0 with
  | true, some _, some (some (i, _)) => (match rK l i with | some (_, A) => some (.eff (.tup [A, .at (.int .i64 i)]) [(b, .mapr d ez (l.set i (k, .av A)))]) | none => none)
  | true, some (.at (.slice none 0 0)), some none => some (.eff (.tup [.hs d 0 0 ez, .at (.int .i64 l.length)]) [(b, .mapr d ez (l ++ [(k, .av (.hs d 0 0 ez))]))])
  | _, _, _ => none)
 | _, _, _ => none
def dr (H : List Blk) (m s v : AV) : Option bc :=
 match jS H m, rO s with
 | some (b, d, ez, l), some i => (match decide (0 <= i), rK l i.toNat with | true, some (k, _) => some (.eff .unk [(b, .mapr d ez (l.set i.toNat (k, .av v)))]) | _, _ => none)
 | _, _ => none
def orE (a b : Option bc) : Option bc := match a with | some r => some r | none => b
def kY (P : Program) (nid : Nat) (t : TypeId) (r : Option AV) : Option bc :=
 match r with
 | none => some (.eff (.mp nid) [(nid, .map [])])
 | some r => (match tU r, P.underlying t with | some _, some (.map _ _) => some (.eff (.mp nid) [(nid, .map [])]) | _, _ => none)
def mz (H : List Blk) (x : AV) : Option (Nat × Nat × List Nat) := match x with | .hp j 0 => (match H[j]? with | some (.iter m n seen) => some (m, n, seen) | _ => none) | _ => none
def Be : Value -> AV | .agg a => .agg (a.toList.map .at) | v => .at v
def jE (P : Program) (H : List Blk) (nid : Nat) (t : TypeId) (x : AV) : Option bc :=
 match P.underlying t, fO H x with
 | some (.map _ _), some (b, es) => some (.eff (.hp nid 0) [(nid, .iter b es.length [])])
 | _, _ => none
def fD (H : List Blk) (x : AV) : Option bc :=
 match mz H x with
 | some (m, n, seen) => (match H[m]? with
  | some (.map es) => (match decide (es.length = n), seen.getLast? with
   | true, some i => (match es[i]? with | some (k, A) => some (.pure (.tup [Be k, A])) | none => none)
   | _, _ => none)
  | _ => none)
 | none => none
def jf (P : Program) (ρ : Operand -> AV) (H : List Blk) (nid : Nat) (op : Op) : Option bc :=
 match op with
 | .makeMap t r => kY P nid t (r.map ρ)
 | .lookup t x ix ok => bc.ofP (dj P H t (ρ x) (ρ ix) ok)
 | .mapUpdate t m k x => fA P H t (ρ m) (ρ k) (ρ x)
 | .insert t m k x => fA P H t (ρ m) (ρ k) (ρ x)
 | .mapEntry t m k => orE (eR P H t (ρ m) (ρ k)) (fy P H t (ρ m) (ρ k))
 | .entryStore _ m s x => orE (dv H (ρ m) (ρ s) (ρ x)) (dr H (ρ m) (ρ s) (ρ x))
 | .range t x => jE P H nid t (ρ x)
 | .entry it => fD H (ρ it)
 | _ => none
def evalOp (P : Program) (ρ : Operand -> AV) (H : List Blk) (nid : Nat) (o : Oper) : Option bc :=
 match o.op with
 | .move x => some (.pure (ρ x))
 | .assign x => some (.pure (ρ x))
 | .pick c a b => rl ρ c a b
 | .alloc t => mX P nid t
 | .box _ x => sG ρ nid x
 | .build t parts => og P ρ t parts
 | .buildSlice t len parts => gF P ρ nid t len parts
 | .load t a => bc.ofP (sg P H t (ρ a))
 | .store t a x => oy P ρ H t a x
 | .nilCheck x => kf ρ x
 | .binOp op t x y _ => bc.ofP (lI P op t x y (ρ x) (ρ y))
 | .unOp op _ x => zH (fun v => dD P (Op.unary op v)) (ρ x)
 | .convert src dst x => lu P ρ src dst x
 | .makeFunc (.func f) fs cs => some (.pure (.fn f (fs.toList.map ρ) (cs.toList.map ρ)))
 | .makeSlice t l c => iv P ρ nid t l c
 | .slice t x lo hi none => oP P ρ H t x lo hi
 | .fieldAddr s x f => bc.ofP (nI P s (ρ x) f)
 | .field s x f => bc.ofP (vK P s (ρ x) f)
 | .indexAddr t x ix => bc.ofP (nZ P t (ρ x) (ρ ix))
 | .index t x ix => bc.ofP (rE P t (ρ x) (ρ ix))
 | .extract t ix => (match ρ t with | .tup vs => bc.ofP vs[ix]? | _ => none)
 | .call c => o9 P ρ H nid c o.type
 | op => jf P ρ H nid op
def cI : AV -> List Nat
 | .hp i _ => [i]
 | .hs i _ _ _ => [i]
 | .hc i _ _ _ _ => [i]
 | .mp i => [i]
 | _ => []
def lB (H : List Blk) (ρ : Operand -> AV) (o : Oper) : List Nat :=
 match o.op with
 | .load _ a => cI (ρ a)
 | .store _ a _ => cI (ρ a)
 | .slice _ x _ _ _ => cI (ρ x)
 | .lookup _ x _ _ => cI (ρ x)
 | .mapUpdate _ m _ _ => cI (ρ m)
 | .insert _ m _ _ => cI (ρ m)
 | .mapEntry _ m _ => cI (ρ m)
 | .entryStore _ m _ _ => cI (ρ m)
 | .range _ x => cI (ρ x)
 | .entry it => cI (ρ it) ++ (match mz H (ρ it) with | some (m, _, _) => [m] | none => [])
 | .call c => c.args.toList.flatMap fun x => cI (ρ x)
 | _ => []
end Go.Eng


namespace Go.Eng
open Go Go.RowKit
variable [Dr]
theorem bG {P : Program} {t : TypeId} {n : Nat} (h : dM P t = some n) (w : World) : (sizeOf t).run P w = .ok n w := by
 unfold dM at h
 split at h
 · rename_i i hi; cases h; simp [sizeOf, typeInfo, hi]
 · cases h
theorem qj {P : Program} {t : TypeId} {b : Bool} (h : xS P t = some b) (w : World) : (isAgg t).run P w = .ok b w := by
 unfold xS at h
 cases hd : P.underlying t with
 | none => simp [hd] at h
 | some d => cases d <;> simp [hd] at h <;> subst h <;> simp [isAgg, run_underlying hd]
theorem kP {P : Program} {t : TypeId} {z : List AV} (h : iu P t = some z) (w : World) : ∃ zv i, P.info? t = some i /\ i.zero = some zv /\ (zeroValue t).run P w = .ok zv w /\ z = zv.cells.toList.map .at := by
 unfold iu at h
 split at h
 · rename_i i hi
   split at h
   · rename_i zv hz; cases h; exact ⟨zv, i, hi, hz, by simp [zeroValue, typeInfo, hi, hz], rfl⟩
   · cases h
 · cases h
theorem dF (b o n : Nat) : (⟨b, o, none⟩ : Addr).add n = ⟨b, o + n, none⟩ := by unfold Addr.add; split <;> simp_all
section
variable {P : Program} {out : Nat -> Prop} {B : Nat -> Prop} {w : World} {Z : List (Option PB)} {H : List Blk}
theorem fB (hI : Inv out B w Z H) {i : Nat} {p : PB} {cs : List AV} (hH : H[i]? = some (.own cs) \/ H[i]? = some (.fix cs)) (hp : Z[i]? = some (some p)) : RvC w (aH out Z H) Z cs p.blk p.off := by
 rcases hH with h | h
 · exact (hI.ok i _ p h hp).2
 · exact hI.ok i _ p h hp
theorem lW (hI : Inv out B w Z H) {a : AV} {v : Value} {cs : List AV} (hv : Rv w (aH out Z H) Z a v) (h : jL H a = some cs) :
  ∃ b o, v = .pointer (some ⟨b, o, none⟩) /\ RvC w (aH out Z H) Z cs b o := by
 unfold jL at h
 split at h
 · rename_i i off
   obtain ⟨p, hp, rfl⟩ := hv
   split at h
   · rename_i c hc; cases h; exact ⟨_, _, rfl, RvC.drop off c _ _ (fB hI (.inl hc) hp)⟩
   · rename_i c hc; cases h; exact ⟨_, _, rfl, RvC.drop off c _ _ (fB hI (.inr hc) hp)⟩
   · cases h
 · rename_i c off
   cases h
   obtain ⟨b, o, rfl, _, h3⟩ := hv
   exact ⟨_, _, rfl, RvC.drop off c _ _ h3.lift⟩
 · cases h
theorem oH (hI : Inv out B w Z H) {a : AV} {v : Value} {A : AV} (hv : Rv w (aH out Z H) Z a v) (h : cellAt H a = some A) :
  ∃ ad u, v = .pointer (some ad) /\ w.cell? ad = some u /\ Rv w (aH out Z H) Z A u := by
 unfold cellAt at h
 split at h
 · rename_i i off
   obtain ⟨p, hp, rfl⟩ := hv
   split at h
   · rename_i c hc
     obtain ⟨u, h1, _, h2⟩ := RvC.get c _ _ off A (fB hI (.inl hc) hp) h
     exact ⟨_, u, rfl, h1, h2⟩
   · rename_i c hc
     obtain ⟨u, h1, _, h2⟩ := RvC.get c _ _ off A (fB hI (.inr hc) hp) h
     exact ⟨_, u, rfl, h1, h2⟩
   · rename_i rs hc
     unfold rq at h
     split at h
     · rename_i A' hA
       cases h
       obtain ⟨u, h1, _, h2⟩ := RvW.av rs _ _ _ off _ (hI.ok i _ p hc hp).2.1 hA
       exact ⟨_, u, rfl, h1, h2⟩
     · cases h
   · cases h
 · rename_i c off
   obtain ⟨b, o, rfl, _, h3⟩ := hv
   obtain ⟨u, h1, _, h2⟩ := RvC.get c _ _ off A h3.lift h
   exact ⟨_, u, rfl, h1, h2⟩
 · cases h
theorem kU {mu : Nat -> Prop} {cs : List AV} {b o n : Nat} (h : RvC w mu Z cs b o) (hn : n <= cs.length) :
  ∃ vs : List Value, vs.length = n /\ RvL w mu Z (cs.take n) vs /\ (∀ v ∈ vs, v.oneCell' = true) /\ (∀ j v, vs[j]? = some v -> w.cell? ((⟨b, o, none⟩ : Addr).add j) = some v) := by
 obtain ⟨vs, h1, h2, h3, h4⟩ := RvC.list (cs.take n) b o (RvC.take n cs b o h)
 refine ⟨vs, by simp [h1]; omega, h2, h3, fun j v hj => ?_⟩
 rw [dF]; exact h4 j v hj
theorem pH (hI : Inv out B w Z H) {t : TypeId} {a : AV} {v : Value} {A : AV} (hv : Rv w (aH out Z H) Z a v) (h : sg P H t a = some A) :
  ∃ u, (Instr.loadAt t v).run P w = .ok u w /\ Rv w (aH out Z H) Z A u := by
 unfold sg at h
 split at h
 · rename_i hagg
   split at h
   · rename_i n cs hn hcs
     split at h
     · rename_i hle
       cases h
       obtain ⟨b, o, rfl, hc⟩ := lW hI hv hcs
       obtain ⟨vs, h1, h2, _, h4⟩ := kU hc (by simpa using hle)
       refine ⟨.agg vs.toArray, ?_, ⟨vs.toArray, rfl, h2⟩⟩
       have hl := run_loadCells_list (P := P) w ⟨b, o, none⟩ vs h4
       rw [h1] at hl
       simp [Instr.loadAt, Instr.sureAddr, loadVar, qj hagg, bG hn, hl]
     · cases h
   · cases h
 · rename_i hagg
   obtain ⟨ad, u, rfl, h1, h2⟩ := oH hI hv h
   exact ⟨u, by simp [Instr.loadAt, Instr.sureAddr, loadVar, qj hagg, h1], h2⟩
 · cases h
theorem kp {i : Nat} {p : PB} (hp : Z[i]? = some (some p)) : ∀ (xs : List AV) (vs : List Value) (k off : Nat) (cs : List AV) (w : World) (H : List Blk), Inv out B w Z H -> H[i]? = some (.own cs) ->
  RvL w (aH out Z H) Z xs vs -> (∀ v ∈ vs, v.oneCell' = true) -> off + k + xs.length <= cs.length ->
  ∃ w', (storeCells ⟨p.blk, p.off + off, none⟩ vs k).run P w = .ok () w' /\ Ext B w w' (aH out Z H) (aH out Z (H.set i (.own (setCells cs (off + k) xs)))) Z Z /\ Inv out B w' Z (H.set i (.own (setCells cs (off + k) xs)))
 | [], vs, k, off, cs, w, H, hI, hH, hv, _, _ => by
  cases hv
  have he : H.set i (.own (setCells cs (off + k) [])) = H := by
   apply List.ext_getElem?
   intro j
   rw [List.getElem?_set]
   split
   · rename_i hij; subst hij; rw [if_pos (aE hH)]; exact hH.symm
   · rfl
  rw [he]
  exact ⟨w, rfl, Ext.refl _ _ _, hI⟩
 | x :: xs, vs, k, off, cs, w, H, hI, hH, hv, h1, hl => by
  obtain ⟨v, vs', rfl, hx, hxs⟩ := hv
  have hlen : off + k < cs.length := by simp at hl; omega
  obtain ⟨⟨c, e, hheap, hsz⟩, hC⟩ := hI.ok i _ p hH hp
  have hb := RvC.bound hC hheap (by intro e0; subst e0; simp at hlen)
  obtain ⟨u, hu, _, _⟩ := RvC.get cs _ _ (off + k) cs[off + k] hC (List.getElem?_eq_getElem hlen)
  have hfro : w.frozen? ⟨p.blk, p.off + (off + k), none⟩ = false := by simp [World.frozen?, hheap]
  have hst : (store ((⟨p.blk, p.off + off, none⟩ : Addr).add k) v).run P w = .ok () (w.setCell ⟨p.blk, p.off + (off + k), none⟩ v) := by
   rw [dF, show p.off + off + k = p.off + (off + k) by omega, run_store P w _ v _ (h1 v (by simp)), hu]
   simp [hfro]
  have hstep := Inv.kO hI hH hp rfl (.own (cs.set (off + k) x)) (w' := w.setCell ⟨p.blk, p.off + (off + k), none⟩ v) (by simp) (fun b hb => Below.heap_setCell w _ v b hb) rfl rfl rfl (fun _ => Nat.le_refl _) (fun hE => by
   refine ⟨?_, ?_⟩
   · refine ⟨c.setIfInBounds (p.off + (off + k)) v, e, ?_, by simpa using hsz⟩
     simp [World.setCell, Array.getElem?_modify, hheap]
   · obtain ⟨us, g1, g2, g3, g4⟩ := RvC.list cs _ _ hC
     refine ff (cs.set (off + k) x) (us.set (off + k) v) _ _ (RvL.set cs us _ x v (RvL.ext hE cs us g2) (Rv.ext hE x v hx)) ?_ ?_
     · intro y hy
       rcases List.mem_or_eq_of_mem_set hy with hy | rfl
       · exact g3 y hy
       · exact h1 _ (by simp)
     · intro j y hj
       rw [List.getElem?_set] at hj
       split at hj
       · rename_i hjk
         subst hjk
         split at hj
         · cases hj; exact World.cell?_setCell_same w _ _ hu
         · cases hj
       · rename_i hjk
         rw [World.cell?_setCell_other w _ _ _ (by intro e0; injection e0 with e1 e2; omega)]
         exact g4 j y hj)
  obtain ⟨hE, hI'⟩ := hstep
  obtain ⟨w', r1, r2, r3⟩ := kp hp xs vs' (k + 1) off (cs.set (off + k) x) (w.setCell ⟨p.blk, p.off + (off + k), none⟩ v) (H.set i (.own (cs.set (off + k) x))) hI' (by
    rw [List.getElem?_set, if_pos rfl, if_pos (aE hH)]) (RvL.ext hE xs vs' hxs) (fun y hy => h1 y (by simp [hy])) (by simp at hl ⊢; omega)
  refine ⟨w', by simp only [storeCells, Sem.run_bind, hst, Result.andThen_ok, r1], ?_, ?_⟩
  · rw [List.set_set] at r2
    exact hE.trans (by simpa [setCells, Nat.add_assoc] using r2)
  · rw [List.set_set] at r3
    simpa [setCells, Nat.add_assoc] using r3
theorem xJ {i : Nat} {p : PB} (hI : Inv out B w Z H) {rs : List RC} (hH : H[i]? = some (.rows rs)) (hp : Z[i]? = some (some p)) {y : AV} {v : Value} {off : Nat} (hoff : off < rs.length) (hv : Rv w (aH out Z H) Z y v) (h1 : v.oneCell' = true) :
  ∃ w', (storeCells ⟨p.blk, p.off + off, none⟩ [v] 0).run P w = .ok () w' /\ Ext B w w' (aH out Z H) (aH out Z (H.set i (.rows (rs.set off (.av y))))) Z Z /\ Inv out B w' Z (H.set i (.rows (rs.set off (.av y)))) := by
 obtain ⟨⟨c, e, hheap, hsz⟩, hC, hS1, hS2⟩ := hI.ok i _ p hH hp
 have hb := RvW.bound hC hheap hoff
 obtain ⟨u, hu, _⟩ := RvW.at hC (List.getElem?_eq_getElem hoff)
 have hfro : w.frozen? ⟨p.blk, p.off + off, none⟩ = false := by simp [World.frozen?, hheap]
 have hst : (store ((⟨p.blk, p.off + off, none⟩ : Addr).add 0) v).run P w = .ok () (w.setCell ⟨p.blk, p.off + off, none⟩ v) := by
  rw [dF, Nat.add_zero, run_store P w _ v _ h1, hu]
  simp [hfro]
 have row : ∀ {k len es : Nat} {cs : List AV}, (rs.set off (.av y))[k]? = some (.row len es cs) -> k ≠ off /\ rs[k]? = some (.row len es cs) := by
  intro k len es cs h
  rcases br h with ⟨_, e⟩ | ⟨hk, h⟩
  · cases e
  · exact ⟨fun e => hk e.symm, h⟩
 have hstep := Inv.kO hI hH hp rfl (.rows (rs.set off (.av y))) (w' := w.setCell ⟨p.blk, p.off + off, none⟩ v) (by simp) (fun b hb => Below.heap_setCell w _ v b hb) rfl rfl rfl (fun _ => Nat.le_refl _) (fun hE => by
  refine ⟨⟨c.setIfInBounds (p.off + off) v, e, by simp [World.setCell, Array.getElem?_modify, hheap], by simpa using hsz⟩, RvW.of _ _ _ _ fun k x hk => ?_, fun k len es cs q g1 g2 => hS1 k len es cs q (row g1).2 g2,
   fun k k' len es len' es' cs cs' q q' hkk g1 g2 g3 g4 => hS2 k k' len es len' es' cs cs' q q' hkk (row g1).2 (row g2).2 g3 g4⟩
  rcases br hk with ⟨rfl, rfl⟩ | ⟨hne, hk⟩
  · exact ⟨v, World.cell?_setCell_same w _ _ hu, h1, Rv.ext hE y v hv⟩
  · obtain ⟨z, z1, z2⟩ := RvW.at hC hk
    refine ⟨z, by rw [World.cell?_setCell_other w _ _ _ (by intro e0; injection e0 with e1 e2; omega)]; exact z1, z2.ext hE fun len es cs q e1 e2 => ?_⟩
    subst e1
    exact Below.heap_setCell w _ v _ (hS1 k len es cs q hk e2)) (by
  rintro b (h | ⟨k, len, es, cs, q, g1, g2, g3⟩)
  · exact .inl h
  · exact .inr ⟨k, len, es, cs, q, (row g1).2, g2, g3⟩)
 exact ⟨_, by simp only [storeCells, Sem.run_bind, hst, Result.andThen_ok]; rfl, hstep.1, hstep.2⟩
theorem tF (hI : Inv out B w Z H) {t : TypeId} {a x : AV} {va vx : Value} {ws : List (Nat × Blk)} (ha : Rv w (aH out Z H) Z a va) (hx : Rv w (aH out Z H) Z x vx) (h : tL P H t a x = some ws) :
  ∃ w', (Instr.storeAt t va vx).run P w = .ok () w' /\ Ext B w w' (aH out Z H) (aH out Z (aO H ws)) Z Z /\ Inv out B w' Z (aO H ws) := by
 unfold tL at h
 split at h
 · rename_i i off
   obtain ⟨p, hp, rfl⟩ := ha
   split at h
   · rename_i cs n hH hn
     split at h
     · rename_i hc
       cases h
       simp only [Bool.and_eq_true, decide_eq_true_eq] at hc
       obtain ⟨h1, h2⟩ := je hx hc.2
       have hl := RvL.length _ _ h1
       obtain ⟨w', r1, r2, r3⟩ := kp (P := P) hp (cellsOf x) vx.cells.toList 0 off cs w H hI hH h1 h2 (by omega)
       have hu : aO H [(i, .own (setCells cs off (cellsOf x)))] = H.set i (.own (setCells cs off (cellsOf x))) := by simp [aO, upd, aE hH]
       rw [Nat.add_zero] at r2 r3
       refine ⟨w', ?_, by rw [hu]; exact r2, by rw [hu]; exact r3⟩
       have hsz : vx.cells.size = n := by rw [<- Array.length_toList, hl, hc.1.1]
       simp [Instr.storeAt, Instr.sureAddr, storeVar, bG hn, hsz, r1]
     · cases h
   · rename_i rs n hH hn
     split at h
     · rename_i y hy
       split at h
       · rename_i hc
         cases h
         simp only [Bool.and_eq_true, decide_eq_true_eq] at hc
         obtain ⟨⟨rfl, hlt⟩, hcell⟩ := hc
         obtain ⟨h1, h2⟩ := je hx (by rw [hy]; simp [hcell])
         rw [hy] at h1
         obtain ⟨v, l, e1, h3, h4⟩ := h1
         cases h4
         obtain ⟨w', r1, r2, r3⟩ := xJ (P := P) hI hH hp hlt h3 (h2 v (by rw [e1]; simp))
         have hu : aO H [(i, .rows (rs.set off (.av y)))] = H.set i (.rows (rs.set off (.av y))) := by simp [aO, upd, aE hH]
         refine ⟨w', ?_, by rw [hu]; exact r2, by rw [hu]; exact r3⟩
         have hsz : vx.cells.size = 1 := by rw [<- Array.length_toList, e1]; rfl
         simp [Instr.storeAt, Instr.sureAddr, storeVar, bG hn, hsz, e1, r1]
       · cases h
     · cases h
   · cases h
 · cases h
end
def uz : List Value -> Nat -> List Value -> List Value
 | l, _, [] => l
 | l, off, x :: xs => uz (l.set off x) (off + 1) xs
theorem ow {mu : Nat -> Prop} {Z : List (Option PB)} {w : World} : ∀ (xs : List AV) (vs : List Value) (cs : List AV) (us : List Value) (off : Nat), RvL w mu Z xs vs -> RvL w mu Z cs us -> RvL w mu Z (setCells cs off xs) (uz us off vs)
 | [], vs, cs, us, off, h, k => by cases h; exact k
 | x :: xs, vs, cs, us, off, h, k => by
  obtain ⟨v, vs', rfl, h1, h2⟩ := h
  exact ow xs vs' _ _ _ h2 (RvL.set cs us off x v k h1)
theorem pY : ∀ (vs us : List Value) (off : Nat), (uz us off vs).length = us.length
 | [], _, _ => rfl
 | v :: vs, us, off => by simp [uz, pY vs]
theorem vj {x : Value} : ∀ (vs us : List Value) (off : Nat), x ∈ uz us off vs -> x ∈ us \/ x ∈ vs
 | [], _, _, h => .inl h
 | v :: vs, us, off, h => by
  rcases vj vs _ _ h with h | h
  · rcases List.mem_or_eq_of_mem_set h with h | rfl
    · exact .inl h
    · exact .inr (by simp)
  · exact .inr (by simp [h])
theorem rA (off : Nat) : ∀ (l : List Value) (k : Nat) (cells : Array Value),
  ((l.zipIdx k).foldl (fun (cs : Array Value) (p : Value × Nat) => cs.setIfInBounds (off + p.2) p.1) cells).toList = uz cells.toList (off + k) l
 | [], _, _ => rfl
 | v :: l, k, cells => by
  simp only [List.zipIdx_cons, List.foldl_cons, uz]
  rw [rA off l (k + 1)]
  simp [Nat.add_assoc]
theorem oZ (off : Nat) (v : Value) (cells : Array Value) :
  (v.cells.zipIdx.foldl (fun (cs : Array Value) (p : Value × Nat) => cs.setIfInBounds (off + p.2) p.1) cells).toList = uz cells.toList off v.cells.toList := by
 rw [<- Array.foldl_toList, Array.toList_zipIdx]
 exact rA off v.cells.toList 0 cells
theorem kB {mu : Nat -> Prop} {Z : List (Option PB)} {w : World} {place : Nat -> Option (Nat × Nat)} : ∀ (ps : List (Nat × AV)) (qs : List (Nat × Value)) (cs : List AV) (cv : Array Value) (r : List AV),
  ps.map (·.1) = qs.map (·.1) -> RvL w mu Z (ps.map (·.2)) (qs.map (·.2)) -> RvL w mu Z cs cv.toList -> (∀ v ∈ cv.toList, v.oneCell' = true) -> nw place cs ps = some r ->
  ∃ rv, Instr.fill place cv qs = some rv /\ RvL w mu Z r rv.toList /\ rv.size = cv.size /\ (∀ v ∈ rv.toList, v.oneCell' = true)
 | [], qs, cs, cv, r, h1, _, h3, h4, h5 => by
  cases qs with
  | nil => simp [nw] at h5; subst h5; exact ⟨cv, rfl, h3, rfl, h4⟩
  | cons q qs => simp at h1
 | (i, x) :: ps, qs, cs, cv, r, h1, h2, h3, h4, h5 => by
  cases qs with
  | nil => simp at h1
  | cons q qs =>
   obtain ⟨j, v⟩ := q
   simp only [List.map_cons, List.cons.injEq] at h1
   obtain ⟨rfl, h1⟩ := h1
   obtain ⟨v', vs', e, hx, hxs⟩ := h2
   simp only [List.map_cons, List.cons.injEq] at e
   obtain ⟨rfl, rfl⟩ := e
   unfold nw at h5
   unfold Instr.fill
   split at h5
   · cases h5
   · rename_i off size hpl
     split at h5
     · rename_i hc
       simp only [Bool.and_eq_true, decide_eq_true_eq] at hc
       obtain ⟨g1, g2⟩ := je hx hc.2
       have hl := RvL.length _ _ g1
       have hl2 := RvL.length _ _ h3
       simp only [Array.length_toList] at hl hl2
       have e1 : v.cells.size = size := by omega
       have e2 : ¬ cv.size < off + v.cells.size := by omega
       obtain ⟨rv, r1, r2, r3, r4⟩ := kB ps qs (setCells cs off (cellsOf x)) (v.cells.zipIdx.foldl (fun (cs : Array Value) (p : Value × Nat) => cs.setIfInBounds (off + p.2) p.1) cv) r h1 hxs (by
         rw [oZ]; exact ow _ _ _ _ _ g1 h3) (by
         rw [oZ]; intro y hy
         rcases vj _ _ _ hy with hy | hy
         · exact h4 y hy
         · exact g2 y hy) h5
       refine ⟨rv, ?_, r2, ?_, r4⟩
       · simp only [hpl]
         rw [if_neg (by simp [e1]; omega)]
         exact r1
       · rw [r3, <- Array.length_toList, oZ, pY, Array.length_toList]
     · cases h5
theorem nr {P : Program} (w : World) : ∀ (fs : List Field) (pl : List (Nat × Nat)), mW P fs = some pl -> (fs.mapM (m := Sem) fun f => do pure (f.offset, <- sizeOf f.type)).run P w = .ok pl w
 | [], pl, h => by simp [mW] at h; subst h; simp
 | f :: fs, pl, h => by
  unfold mW at h
  split at h
  · rename_i n l hn hl
    cases h
    have ih := nr w fs l hl
    simp only [List.mapM_cons, Sem.run_bind, bG hn, Result.andThen_ok, Sem.run_pure, ih]
  · cases h
theorem mZ {mu : Nat -> Prop} {Z : List (Option PB)} {w : World} (z : List Value) : ∀ n : Nat, RvL w mu Z (cN (z.map .at) n) ((List.replicate n z).flatten)
 | 0 => rfl
 | n + 1 => by
  simp only [cN, List.replicate_succ, List.flatten_cons]
  exact RvL.append _ _ _ _ (dW z) (mZ z n)
theorem BZ {mu : Nat -> Prop} {Z : List (Option PB)} {w : World} {a : AV} {v : Value} (h : Rv w mu Z a v) : Rv w mu Z (wkN a) v := by
 unfold wkN
 split
 · exact .inl ⟨rfl, rfl, rfl, h⟩
 · exact h
theorem wP {mu : Nat -> Prop} {Z : List (Option PB)} {w : World} : ∀ (as : List AV) (vs : List Value), RvL w mu Z as vs -> RvL w mu Z (as.map wkN) vs
 | [], _, h => h
 | a :: as, _, ⟨v, vs', h1, h2, h3⟩ => ⟨v, vs', h1, BZ h2, wP as vs' h3⟩
theorem qX {mu : Nat -> Prop} {Z : List (Option PB)} {w : World} (z : List Value) : ∀ n : Nat, RvL w mu Z (cN ((z.map .at).map wkN) n) ((List.replicate n z).flatten)
 | 0 => rfl
 | n + 1 => by
  simp only [cN, List.replicate_succ, List.flatten_cons]
  exact RvL.append _ _ _ _ (wP _ _ (dW z)) (qX z n)
theorem iT (z : List Value) (hz : 0 < z.length) : ∀ (n j : Nat), j < n * z.length -> ((List.replicate n z).flatten)[j]? = z[j % z.length]?
 | 0, j, h => by simp at h
 | n + 1, j, h => by
  simp only [List.replicate_succ, List.flatten_cons]
  by_cases hj : j < z.length
  · rw [List.getElem?_append_left hj, Nat.mod_eq_of_lt hj]
  · rw [List.getElem?_append_right (by omega), iT z hz n (j - z.length) (by rw [Nat.add_mul, Nat.one_mul] at h; omega)]
    congr 1
    rw [<- Nat.mod_eq_sub_mod (by omega)]
theorem jI (z : Array Value) (n : Nat) (hz : 0 < z.size) : (madeCells z (n * z.size)).toList = (List.replicate n z.toList).flatten := by
 apply List.ext_getElem?
 intro j
 by_cases hj : j < n * z.size
 · rw [iT z.toList (by simpa using hz) n j (by simpa using hj)]
   simp [madeCells, hj, Nat.mod_lt _ hz, getElem!_pos]
 · rw [List.getElem?_eq_none (by simp [madeCells]; omega), List.getElem?_eq_none (by simp; omega)]
theorem all_zero {z : List Value} (h : (z.map AV.at).all eC = true) : ∀ v ∈ z, v.oneCell' = true := by
 simpa [eC, List.all_map] using h
theorem ij {z : List Value} (h : ∀ v ∈ z, v.oneCell' = true) (n : Nat) : ∀ v ∈ (List.replicate n z).flatten, v.oneCell' = true := by
 intro v hv
 simp only [List.mem_flatten, List.mem_replicate] at hv
 obtain ⟨l, ⟨_, rfl⟩, hv⟩ := hv
 exact h v hv
section
variable {P : Program} {out : Nat -> Prop} {B : Nat -> Prop} {w : World} {Z : List (Option PB)} {H : List Blk}
theorem mR (hI : Inv out B w Z H) {n : Nat} (hn : n <= H.length) (hf : ∀ q, Z[n]? ≠ some (some q)) (cs : List AV) (vs : Array Value) (e : TypeId) (h : RvL w (aH out Z H) Z cs (vs.toList.take cs.length)) (h1 : ∀ v ∈ vs.toList.take cs.length, v.oneCell' = true) :
  Ext B w (w.alloc (.cells vs e)) (aH out Z H) (aH out (upd Z n (some ⟨w.heap.size, 0, vs.size, fun _ => none⟩)) (aO H [(n, .own cs)])) Z (upd Z n (some ⟨w.heap.size, 0, vs.size, fun _ => none⟩)) /\
  Inv out B (w.alloc (.cells vs e)) (upd Z n (some ⟨w.heap.size, 0, vs.size, fun _ => none⟩)) (aO H [(n, .own cs)]) := by
 have hE := lg hI (.cells vs e) (.own cs) ⟨w.heap.size, 0, vs.size, fun _ => none⟩ rfl hn hf
 refine ⟨hE, hI.alloc _ _ _ rfl hn hf ⟨⟨vs, e, (by show (w.heap.push _)[w.heap.size]? = _; simp), rfl⟩, ?_⟩⟩
 refine ff cs (vs.toList.take cs.length) _ _ (RvL.ext hE _ _ h) h1 fun j v hj => ?_
 rw [Nat.zero_add, World.cell?_alloc_new]
 rw [List.getElem?_take] at hj
 split at hj
 · simpa using hj
 · cases hj
theorem jj (hI : Inv out B w Z H) {n : Nat} (hn : n <= H.length) (hf : ∀ q, Z[n]? ≠ some (some q)) (cs : List AV) (vs : Array Value) (e : TypeId) (h : RvL w (aH out Z H) Z cs vs.toList) (h1 : ∀ v ∈ vs.toList, v.oneCell' = true) :
  Ext B w (w.alloc (.cells vs e)) (aH out Z H) (aH out (upd Z n (some ⟨w.heap.size, 0, vs.size, fun _ => none⟩)) (aO H [(n, .own cs)])) Z (upd Z n (some ⟨w.heap.size, 0, vs.size, fun _ => none⟩)) /\
  Inv out B (w.alloc (.cells vs e)) (upd Z n (some ⟨w.heap.size, 0, vs.size, fun _ => none⟩)) (aO H [(n, .own cs)]) := by
 have hl := RvL.length _ _ h
 have ht : vs.toList.take cs.length = vs.toList := by rw [<- hl, List.take_length]
 exact mR hI hn hf cs vs e (by rw [ht]; exact h) (by rw [ht]; exact h1)
theorem fe (hI : Inv out B w Z H) {n : Nat} (hn : n <= H.length) (p : PB) : (upd Z n (some p))[n]? = some (some p) := by rw [er (by have := hI.len; omega), if_pos rfl]
end
end Go.Eng
namespace Go
theorem lbT {n m : Nat} (h : Nat.ble n m = true) : n <= m := Nat.le_of_ble_eq_true h
theorem dcT {p : Prop} [Decidable p] (h : decide p = true) : p := of_decide_eq_true h
theorem dcF {p : Prop} [Decidable p] (h : decide p = false) : ¬ p := of_decide_eq_false h
theorem mrT {a b c : Int} (h : a <= b) (k : 0 <= c) : a * c <= b * c := Int.mul_le_mul_of_nonneg_right h k
theorem mlT {a b c : Int} (h : a <= b) (k : 0 <= c) : c * a <= c * b := Int.mul_le_mul_of_nonneg_left h k
theorem geT {α : Type _} {l : List α} {i : Nat} (h : i < l.length) : l[i]? = some l[i] := List.getElem?_eq_getElem h
end Go
