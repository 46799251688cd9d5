/- The engine, part 7: the evaluator of regions, code and functions (definitions alone). -/
import Derived.Test.YtlajgmapmocpbaaGreatEng6e
set_option linter.unusedSimpArgs false
set_option linter.unusedVariables false
namespace Go.Eng
open Go Go.RowKit

structure St where
  slots : List AV
  heap : List Blk

inductive CRes where
  | loc (v : AV) (ws : List (Nat × Blk)) (rd : List Nat) (n : Nat)
  | whole (v : AV) (H : List Blk)

abbrev CallF := FuncId → List AV → List Blk → Option CRes

/-- 'slots.getD t .unk', as the kernel likes it. -/
noncomputable def getS (l : List AV) : Nat → AV :=
  List.rec (motive := fun _ => Nat → AV) (fun _ => .unk) (fun x _ ih n => Nat.rec (motive := fun _ => AV) x (fun m _ => ih m) n) l
theorem getS_eq (l : List AV) : ∀ n : Nat, getS l n = l.getD n .unk := by
  induction l with
  | nil => intro n; rfl
  | cons x l ih => intro n; cases n with
    | zero => rfl
    | succ n => exact (ih n).trans (by simp)
/-- 'k (l.set n v)', the list laid out before k is asked. -/
noncomputable def setK {α : Type} (l : List AV) : Nat → AV → (List AV → α) → α :=
  List.rec (motive := fun _ => Nat → AV → (List AV → α) → α) (fun _ _ k => k []) (fun x xs ih n v k => Nat.rec (motive := fun _ => α) (k (v :: xs)) (fun m _ => ih m v (fun r => k (x :: r))) n) l
theorem setK_eq {α : Type} (l : List AV) : ∀ (n : Nat) (v : AV) (k : List AV → α), setK l n v k = k (l.set n v) := by
  induction l with
  | nil => intro n v k; rfl
  | cons x l ih => intro n v k; cases n with
    | zero => rfl
    | succ n => exact ih n v _

noncomputable def evA (slots : List AV) : Operand → AV
  | .tmp t => getS slots t
  | .const v => .at v
  | .global g => .at (.pointer (some ⟨g, 0, none⟩))
  | .func f => .fn f [] []

def putA (slots : List AV) (dst : Option Tmp) (v : AV) : List AV := match dst with | some d => slots.set d v | none => slots
noncomputable def putK {α : Type} (slots : List AV) (dst : Option Tmp) (v : AV) (k : List AV → α) : α := match dst with | some d => setK slots d v k | none => k slots
theorem putK_eq {α : Type} (slots : List AV) (dst : Option Tmp) (v : AV) (k : List AV → α) : putK slots dst v k = k (putA slots dst v) := by
  cases dst with
  | none => rfl
  | some d => exact setK_eq slots d v k

noncomputable def wantedA (ops : List Oper) (o : Oper) (slots : List AV) : Option Bool :=
  match o.guard with
  | none => some true
  | some (j, want) => match ops[j]? with
    | some oj => (match oj.dst with | some d => (match getS slots d with | .at (.bool b) => some (b == want) | .at (.tuple _) => some false | _ => none) | none => none)
    | none => none

def deads (n : Nat) : List Blk := List.replicate n .dead

/-- One entry of a region's record. -/
structure Ent where
  o : Oper
  nid : Nat
  v : AV
  ws : List (Nat × Blk)
  rd : List Nat
  n : Nat

/-- One operation, in the text's order. 'whole' effects give no entry. -/
noncomputable def stepA (P : Program) (call : CallF) (ops : List Oper) (o : Oper) (st : St) : Option (St × Option Ent) :=
  match wantedA ops o st.slots with
  | some true => (match evalOp P (evA st.slots) st.heap st.heap.length o with
    | some (.pure v) => putK st.slots o.dst v fun s => some (⟨s, st.heap⟩, some ⟨o, st.heap.length, v, [], readsOf (evA st.slots) o, 0⟩)
    | some (.eff v ws) => putK st.slots o.dst v fun s => some (⟨s, updAll st.heap ws⟩, some ⟨o, st.heap.length, v, ws, readsOf (evA st.slots) o, 0⟩)
    | some (.call f args) => (match call f args st.heap with
      | some (.loc v ws rd n) => putK st.slots o.dst v fun s => some (⟨s, updAll (st.heap ++ deads n) ws⟩, some ⟨o, st.heap.length, v, ws, rd, n⟩)
      | some (.whole v H) => putK st.slots o.dst v fun s => some (⟨s, H⟩, none)
      | none => none)
    | none => none)
  | some false => putK st.slots o.dst (.at undef) fun s => some (⟨s, st.heap⟩, some ⟨o, st.heap.length, .at undef, [], [], 0⟩)
  | none => none

noncomputable def evalOps (P : Program) (call : CallF) (ops : List Oper) : List Oper → St → Option St
  | [], st => some st
  | o :: rest, st => match stepA P call ops o st with
    | some (st', _) => evalOps P call ops rest st'
    | none => none

/-- What a record's entry must meet. -/
def entOk (len : Nat) (e : Ent) : Bool :=
  (e.rd.all fun b => decide (b < len)) &&
  match e.n with
  | 0 => e.ws.all fun p => decide (p.1 ≤ len)
  | n + 1 => (e.ws.all fun p => decide (p.1 < len + (n + 1))) && (List.range (n + 1)).all fun j => (e.ws.map (·.1)).contains (len + j)

/-- The text's order once more, with the record. -/
noncomputable def traceOps (P : Program) (call : CallF) (ops : List Oper) : List Oper → St → Option (St × List Ent)
  | [], st => some (st, [])
  | o :: rest, st => match stepA P call ops o st with
    | some (st', some e) => (match entOk st.heap.length e, traceOps P call ops rest st' with | true, some (st'', es) => some (st'', e :: es) | _, _ => none)
    | _ => none

def opTmps (l : List Operand) : List Tmp := l.filterMap fun | .tmp t => some t | _ => none
/-- The temporaries that an operation reads, its guard's among them. -/
def tmpReads (ops : List Oper) (o : Oper) : List Tmp :=
  opTmps o.op.operands.toList ++ (match o.guard with | some (j, _) => (match ops[j]? with | some oj => oj.dst.toList | none => []) | none => [])

def befMask (acc : List Nat) (o : Oper) : Nat := o.after.toList.foldl (fun s e => if Region.binds .any e then s ||| (2 ^ e.on ||| acc.getD e.on 0) else s) 0
def befs : List Nat → List Oper → List Nat
  | acc, [] => acc
  | acc, o :: rest => befs (acc ++ [befMask acc o]) rest

def disj (l k : List Nat) : Bool := l.all fun x => !k.contains x

/-- Two entries of which neither must come first do not meet. -/
def free2 (ops : List Oper) (a b : Ent) : Bool :=
  let wa := a.o.dst.toList
  let wb := b.o.dst.toList
  disj wa (tmpReads ops b.o) && disj wa wb && disj wb (tmpReads ops a.o) &&
  disj (a.ws.map (·.1)) b.rd && disj (a.ws.map (·.1)) (b.ws.map (·.1)) && disj (b.ws.map (·.1)) a.rd

/-- The entry 'b', its mask 'm', against those before it. -/
def freeBack (ops : List Oper) (b : Ent) (m : Nat) : List Ent → Nat → Bool
  | [], _ => true
  | a :: es, i => (m.testBit i || free2 ops a b) && (a.ws.all fun p => decide (p.1 < b.nid)) && freeBack ops b m es (i + 1)

def freeAll (ops : List Oper) (bef : List Nat) (all : List Ent) : List Ent → Nat → Bool
  | [], _ => true
  | b :: es, j => freeBack ops b (bef.getD j 0) (all.take j) 0 && freeAll ops bef all es (j + 1)

def edgesOk : List Oper → Nat → Bool
  | [], _ => true
  | o :: rest, i => o.after.toList.all (fun e => !Region.binds .any e || decide (e.on < i)) && edgesOk rest (i + 1)

noncomputable def evalRegion (P : Program) (call : CallF) (ops : List Oper) (draw : Bool) (st : St) : Option St :=
  match draw with
  | false => evalOps P call ops ops st
  | true => match traceOps P call ops ops st with
    | some (st', es) => (match edgesOk ops 0 && freeAll ops (befs [] ops) es es 0 with | true => some st' | false => none)
    | none => none

inductive X where
  | normal
  | exit (id : Nat)
  | ret

def iter (f : St → Option (X × St)) : Nat → St → Option (X × St)
  | 0, _ => none
  | n + 1, st => match f st with
    | some (.normal, st') => iter f n st'
    | r => r

noncomputable def evalCode (P : Program) (call : CallF) (n : Nat) : Code → St → Option (X × St)
  | .skip, st => some (.normal, st)
  | .label _, st => some (.normal, st)
  | .region _ ops draw, st => (match evalRegion P call ops.toList draw st with | some st' => some (.normal, st') | none => none)
  | .seq a b, st => (match evalCode P call n a st with | some (.normal, st') => evalCode P call n b st' | r => r)
  | .cond c a b, st => (match evA st.slots c with | .at (.bool true) => evalCode P call n a st | .at (.bool false) => evalCode P call n b st | _ => none)
  | .block id c, st => (match evalCode P call n c st with | some (.exit id', st') => (match decide (id' = id) with | true => some (.normal, st') | false => some (.exit id', st')) | r => r)
  | .loop c, st => iter (evalCode P call n c) n st
  | .exit id, st => some (.exit id, st)
  | .ret, st => some (.ret, st)
  | _, _ => none

noncomputable def resultA (P : Program) (st : St) : ResultVar → Option AV
  | .tmp t => some (getS st.slots t)
  | .cell a t => loadA P st.heap t (getS st.slots a)
noncomputable def resultsA (P : Program) (st : St) : List ResultVar → Option (List AV)
  | [] => some []
  | r :: rs => match resultA P st r, resultsA P st rs with | some v, some vs => some (v :: vs) | _, _ => none
def packA : List AV → AV | [v] => v | vs => .tup vs

def unks (n : Nat) : List AV := List.replicate n .unk

/-- A function's body on a heap. -/
noncomputable def evalBody (P : Program) (call : CallF) (n : Nat) (fn : Func) (args : List AV) (H : List Blk) : Option (AV × List Blk) :=
  match fn.body with
  | none => none
  | some c => match evalCode P call n c ⟨args ++ unks (fn.ntmps - args.length), H⟩ with
    | some (.exit _, _) => none
    | some (_, st) => (match resultsA P st fn.results.toList with | some vs => some (packA vs, st.heap) | none => none)
    | none => none

def mapO {α β : Type} (f : α → Option β) : List α → Option (List β)
  | [] => some []
  | x :: xs => match f x, mapO f xs with | some y, some ys => some (y :: ys) | _, _ => none

/-- A value without the own blocks: what a callee is handed that writes nothing of ours. 'ok': the blocks that it may look into. -/
def snapA (H : List Blk) (ok : Nat → Bool) : Nat → AV → Option AV
  | _, .unk => some .unk
  | _, .at v => some (.at v)
  | _, .sl nl cs len => some (.sl nl cs len)
  | _, .pp cs off => some (.pp cs off)
  | 0, _ => none
  | n + 1, .hs b off len es => (match ok b, sliceCells H es (.hs b off len es) with
    | true, some (cs, m) => (match mapO (snapA H ok n) cs with | some cs' => some (.sl true cs' m) | none => none)
    | _, _ => none)
  | n + 1, .hp b off => (match ok b, H[b]? with
    | true, some (.own cs) => (match mapO (snapA H ok n) cs with | some cs' => some (.pp cs' off) | none => none)
    | true, some (.fix cs) => (match mapO (snapA H ok n) cs with | some cs' => some (.pp cs' off) | none => none)
    | _, _ => none)
  | _ + 1, .mp _ => none
  | n + 1, .agg cs => (match mapO (snapA H ok n) cs with | some cs' => some (.agg cs') | none => none)
  | n + 1, .tup cs => (match mapO (snapA H ok n) cs with | some cs' => some (.tup cs') | none => none)
  | n + 1, .fn f fs cs => (match mapO (snapA H ok n) fs, mapO (snapA H ok n) cs with | some fs', some cs' => some (.fn f fs' cs') | _, _ => none)

mutual
/-- Does a value lead to memory? -/
def hasRef : AV → Bool
  | .unk | .at _ => false
  | .agg cs => hasRefL cs
  | .tup cs => hasRefL cs
  | .fn _ fs cs => hasRefL fs || hasRefL cs
  | _ => true
def hasRefL : List AV → Bool
  | [] => false
  | c :: cs => hasRef c || hasRefL cs
end
mutual
/-- The own blocks that a value names. -/
def idsOf : AV → List Nat
  | .hs b _ _ _ => [b]
  | .hp b _ => [b]
  | .mp b => [b]
  | .agg cs => idsOfL cs
  | .tup cs => idsOfL cs
  | .fn _ fs cs => idsOfL fs ++ idsOfL cs
  | _ => []
def idsOfL : List AV → List Nat
  | [] => []
  | c :: cs => idsOf c ++ idsOfL cs
end
/-- Own blocks under new numbers; what has none is read. -/
def renA (G : List Blk) (ok : Nat → Bool) (ρ : Nat → Option Nat) : Nat → AV → Option AV
  | n, .hs b off len es => (match ρ b with | some c => some (.hs c off len es) | none => snapA G ok n (.hs b off len es))
  | n, .hp b off => (match ρ b with | some c => some (.hp c off) | none => snapA G ok n (.hp b off))
  | n + 1, .agg cs => (match mapO (renA G ok ρ n) cs with | some cs' => some (.agg cs') | none => none)
  | n + 1, .tup cs => (match mapO (renA G ok ρ n) cs with | some cs' => some (.tup cs') | none => none)
  | n, x => snapA G ok n x

def insNat (l : List Nat) (x : Nat) : List Nat := if l.contains x then l else l ++ [x]
def blkIds : Option Blk → List Nat
  | some (.own cs) => idsOfL cs
  | some (.fix cs) => idsOfL cs
  | _ => []
/-- All own blocks that can be come to. -/
def reach (H : List Blk) : Nat → List Nat → List Nat
  | 0, l => l
  | n + 1, l => match (l.flatMap fun b => blkIds H[b]?).filter fun b => !l.contains b with
    | [] => l
    | new => reach H n (new.foldl insNat l)

def freezeW (H : List Blk) (l : List Nat) : List (Nat × Blk) :=
  l.filterMap fun b : Nat => match (H[b]? : Option Blk) with | some (.own cs) => some (b, .fix cs) | _ => none

def findAt (l : List Nat) (x base : Nat) : Option Nat := match l with
  | [] => none
  | y :: ys => if y = x then some base else findAt ys x (base + 1)

/-- The blocks of a callee that its answer names: they become the caller's. -/
def bringL (G : List Blk) (ok : Nat → Bool) (n : Nat) : List Nat → Option (List (List AV))
  | [] => some []
  | b :: bs => match G[b]? with
    | some (.own cs) => (match mapO (snapA G ok n) cs, bringL G ok n bs with | some cs', some l => some (cs' :: l) | _, _ => none)
    | _ => none

def numbered (nid : Nat) : List (List AV) → List (Nat × Blk)
  | [] => []
  | x :: xs => (nid, .own x) :: numbered (nid + 1) xs

def isOwnB : Option Blk → Bool | some (.own _) => true | _ => false
def nodupB : List Nat → Bool
  | [] => true
  | x :: xs => !xs.contains x && nodupB xs

/-- What a caller makes of a callee's answer: r in blocks G, the callee's own; 'l': the blocks of H that its arguments led to. -/
def bringA (n : Nat) (l : List Nat) (H G : List Blk) (r : AV) : Option CRes :=
  match hasRef r with
  | false => some (.loc r [] l 0)
  | true =>
    let σ := ((idsOf r).filter fun b => isOwnB G[b]?).foldl insNat []
    match nodupB σ, bringL G (fun b => !σ.contains b) n σ, renA G (fun b => !σ.contains b) (findAt σ · H.length) n r with
    | true, some new, some r' => some (.loc r' (freezeW H l ++ numbered H.length new) l new.length)
    | _, _, _ => none

/-- Whole runs: every callee by its body, but for those that 'ext' answers. -/
noncomputable def evalCall (P : Program) (inl : FuncId → Bool) (ext : FuncId → Option (List AV → Option AV)) : Nat → CallF
  | 0, _, _, _ => none
  | n + 1, f, args, H =>
    match P.funcs[f]? with
    | none => none
    | some fn =>
      match inl f with
      | true => (match evalBody P (evalCall P inl ext n) n fn args H with | some (v, H') => some (.whole v H') | none => none)
      | false =>
        let l := reach H n ((idsOfL args).foldl insNat [])
        match mapO (snapA H (fun b => l.contains b) n) args with
        | none => none
        | some args' => match ext f with
          | some F => (match F args' with | some r => (match idsOf r with | [] => bringA n l H [] r | _ => none) | none => none)
          | none => (match evalBody P (evalCall P inl ext n) n fn args' [] with | some (r, G) => bringA n l H G r | none => none)
end Go.Eng
