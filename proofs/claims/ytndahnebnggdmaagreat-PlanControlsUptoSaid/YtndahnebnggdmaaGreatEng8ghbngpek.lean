import Derived.Test.YtndahnebnggdmaaGreatEng5poippjkd
set_option linter.all false
namespace Go.Eng
open Go Go.RowKit
variable [Dr]
theorem evalOp_heap {P : Program} {ρ : Operand → AV} {H H' : List Blk} {nid : Nat} {o : Oper} (h : ∀ b ∈ readsOf H ρ o, H[b]? = H'[b]?) : evalOp P ρ H nid o = evalOp P ρ H' nid o := by
 have cellAt_eq : ∀ a : AV, (∀ b ∈ ptrBlk a, H[b]? = H'[b]?) → cellAt H a = cellAt H' a := by
  intro a ha; cases a <;> simp only [cellAt]
  rw [ha _ (by simp [ptrBlk])]
 have cellsFrom_eq : ∀ a : AV, (∀ b ∈ ptrBlk a, H[b]? = H'[b]?) → cellsFrom H a = cellsFrom H' a := by
  intro a ha; cases a <;> simp only [cellsFrom]
  rw [ha _ (by simp [ptrBlk])]
 have sliceCells_eq : ∀ (n : Nat) (a : AV), (∀ b ∈ ptrBlk a, H[b]? = H'[b]?) → sliceCells H n a = sliceCells H' n a := by
  intro n a ha
  unfold sliceCells
  split <;> try rfl
  rw [ha _ (by simp [ptrBlk])]
 have mapAt_eq : ∀ a : AV, (∀ b ∈ ptrBlk a, H[b]? = H'[b]?) → mapAt H a = mapAt H' a := by
  intro a ha; cases a <;> simp only [mapAt]
  rw [ha _ (by simp [ptrBlk])]
 unfold evalOp
 unfold readsOf at h
 cases hop : o.op <;> simp only [hop, opPick, opAlloc, opBox, opBuild, opBuildSlice, opStore, opNilCheck, opConvert, opMakeSlice, opSlice, opCall, opMap] at h ⊢
 case load t a =>
  simp only [loadA, cellAt_eq _ h, cellsFrom_eq _ h]
 case store t a x =>
  simp only [storeA]
  cases ha : ρ a <;> simp only
  rw [h _ (by simp [ha, ptrBlk])]
 case slice t x lo hi mx =>
  cases mx with
  | some _ => rfl
  | none =>
   simp only
   have : ∀ y lo hi, (∀ b ∈ ptrBlk y, H[b]? = H'[b]?) → sliceA P H t y lo hi = sliceA P H' t y lo hi := by
    intro y lo hi hy
    simp only [sliceA]
    cases P.underlying t with
    | none => rfl
    | some d =>
     cases d <;> simp only
     cases tSize P _ <;> cases y <;> simp only
     rw [hy _ (by simp [ptrBlk])]
   split
   · rfl
   · rw [this _ _ _ h]
 case makeFunc fn fs cs => cases fn <;> rfl
 case lookup t x ix ok => simp only [lookupA, mapAt_eq _ h]
 case mapUpdate t m k x => simp only [opUpdate, mapAt_eq _ h]
 case insert t m k x => simp only [opUpdate, mapAt_eq _ h]
 case mapEntry t m k => simp only [opEntry, mapAt_eq _ h]
 case entryStore t m k x => simp only [opEntryStore, mapAt_eq _ h]
 case range t x => simp only [opRange, mapAt_eq _ h]
 case entry it =>
  have h1 : iterAt H (ρ it) = iterAt H' (ρ it) := by
   unfold iterAt
   split
   · rename_i j heq; rw [h j (by rw [heq]; simp [ptrBlk])]
   · rfl
  simp only [opIterEntry, ← h1]
  cases hi : iterAt H (ρ it) with
  | none => rfl
  | some q => obtain ⟨m, n, seen⟩ := q; simp only; rw [h m (by simp [hi])]
 case call c =>
  cases hc : c.callee <;> simp only
  simp only [builtinA]
  split <;> try rfl
  · rename_i s x heq
    have h1 : ∀ b ∈ ptrBlk s, H[b]? = H'[b]? := by
     intro b hb
     refine h b (List.mem_flatMap.2 ?_)
     have : s ∈ c.args.toList.map ρ := by rw [heq]; simp
     obtain ⟨y, hy, rfl⟩ := List.mem_map.1 this
     exact ⟨y, hy, hb⟩
    have h2 : ∀ b ∈ ptrBlk x, H[b]? = H'[b]? := by
     intro b hb
     refine h b (List.mem_flatMap.2 ?_)
     have : x ∈ c.args.toList.map ρ := by rw [heq]; simp
     obtain ⟨y, hy, rfl⟩ := List.mem_map.1 this
     exact ⟨y, hy, hb⟩
    have : ∀ n by_, appendA H nid n by_ s x = appendA H' nid n by_ s x := by
     intro n by_
     simp only [appendA, sliceCells_eq _ _ h2]
     split
     · rfl
     · split
       · rfl
       · rfl
       · rw [h1 _ (by simp [ptrBlk])]
       · rw [h1 _ (by simp [ptrBlk])]
       · rfl
    simp only [this]
  · rename_i s x heq
    have h1 : ∀ b ∈ ptrBlk s, H[b]? = H'[b]? := by
     intro b hb
     refine h b (List.mem_flatMap.2 ?_)
     have : s ∈ c.args.toList.map ρ := by rw [heq]; simp
     obtain ⟨y, hy, rfl⟩ := List.mem_map.1 this
     exact ⟨y, hy, hb⟩
    have h2 : ∀ b ∈ ptrBlk x, H[b]? = H'[b]? := by
     intro b hb
     refine h b (List.mem_flatMap.2 ?_)
     have : x ∈ c.args.toList.map ρ := by rw [heq]; simp
     obtain ⟨y, hy, rfl⟩ := List.mem_map.1 this
     exact ⟨y, hy, hb⟩
    have : ∀ n, copyA H n s x = copyA H' n s x := by
     intro n
     simp only [copyA, sliceCells_eq _ _ h2]
     split
     · rfl
     · split
       · rw [h1 _ (by simp [ptrBlk])]
       · rfl
    simp only [this]
  · rename_i d heq
    have h1 : ∀ b ∈ ptrBlk d, H[b]? = H'[b]? := by
     intro b hb
     refine h b (List.mem_flatMap.2 ?_)
     have : d ∈ c.args.toList.map ρ := by rw [heq]; simp
     obtain ⟨y, hy, rfl⟩ := List.mem_map.1 this
     exact ⟨y, hy, hb⟩
    have : ∀ n z, clearA H n z d = clearA H' n z d := by
     intro n z
     simp only [clearA]
     split
     · rw [h1 _ (by simp [ptrBlk])]
     · rfl
    simp only [this]
theorem evalOp_ops {P : Program} {ρ ρ' : Operand → AV} {H : List Blk} {nid : Nat} {o : Oper} (h : ∀ x ∈ o.op.operands.toList, ρ x = ρ' x) : evalOp P ρ H nid o = evalOp P ρ' H nid o := by
 have hparts : ∀ (l : List (Nat × Operand)), (∀ x ∈ (l.map (·.2)), ρ x = ρ' x) → (l.map fun p => (p.1, ρ p.2)) = l.map fun p => (p.1, ρ' p.2) := by
  intro l hl
  apply List.map_congr_left
  intro p hp
  rw [hl _ (List.mem_map_of_mem hp)]
 have hmap : ∀ (l : List Operand), (∀ x ∈ l, ρ x = ρ' x) → l.map ρ = l.map ρ' := fun l hl => List.map_congr_left hl
 unfold evalOp
 cases hop : o.op <;> simp only [hop, Op.operands, opPick, opAlloc, opBox, opBuild, opBuildSlice, opStore, opNilCheck, opConvert, opMakeSlice, opSlice, opCall, opMap] at h ⊢
 case move x => rw [h x (by simp)]
 case «assign» x => rw [h x (by simp)]
 case pick c a b => rw [h c (by simp), h a (by simp), h b (by simp)]
 case box t x => rw [h x (by simp)]
 case build t ps => rw [hparts _ (by simpa using h)]
 case buildSlice t n ps => rw [hparts _ (by simpa using h)]
 case load t a => rw [h a (by simp)]
 case store t a x => rw [h a (by simp), h x (by simp)]
 case nilCheck x => rw [h x (by simp)]
 case binOp op t x y u => rw [h x (by simp), h y (by simp)]
 case unOp op t x => rw [h x (by simp)]
 case convert s d x => rw [h x (by simp)]
 case makeFunc fn fs cs =>
  cases fn <;> simp only
  rw [hmap fs.toList (fun x hx => h x (by simp at hx ⊢; exact .inl hx)), hmap cs.toList (fun x hx => h x (by simp at hx ⊢; exact .inr hx))]
 case makeSlice t l c => rw [h l (by simp), h c (by simp)]
 case slice t x lo hi mx =>
  cases mx with
  | some _ => rfl
  | none =>
   have e1 : ρ x = ρ' x := h x (by simp)
   have e2 : lo.map ρ = lo.map ρ' := by cases lo with | none => rfl | some y => simp [h y (by simp)]
   have e3 : hi.map ρ = hi.map ρ' := by cases hi with | none => rfl | some y => simp [h y (by simp)]
   simp only [e1, e2, e3]
   cases lo <;> cases hi <;> simp_all
 case fieldAddr s x f => rw [h x (by simp)]
 case field s x f => rw [h x (by simp)]
 case indexAddr t x ix => rw [h x (by simp), h ix (by simp)]
 case index t x ix => rw [h x (by simp), h ix (by simp)]
 case extract t ix => rw [h t (by simp)]
 case makeMap t r =>
  have e : r.map ρ = r.map ρ' := by cases r with | none => rfl | some y => simp [h y (by simp)]
  rw [e]
 case lookup t x ix ok => rw [h x (by simp), h ix (by simp)]
 case mapUpdate t m k x => rw [h m (by simp), h k (by simp), h x (by simp)]
 case insert t m k x => rw [h m (by simp), h k (by simp), h x (by simp)]
 case mapEntry t m k => rw [h m (by simp), h k (by simp)]
 case range t x => rw [h x (by simp)]
 case entry it => rw [h it (by simp)]
 case entryStore t m k x => rw [h m (by simp), h k (by simp), h x (by simp)]
 case call c =>
  have ha : c.args.toList.map ρ = c.args.toList.map ρ' := hmap _ fun x hx => h x (by simp only [Call.operands, Array.toList_append, List.mem_append]; exact .inr hx)
  cases hc : c.callee <;> simp only
  case value f =>
   have : ρ f = ρ' f := h f (by simp [Call.operands, hc])
   rw [this, ha]
  case builtin b => rw [ha]
end Go.Eng


namespace Go.Eng
open Go Go.RowKit
variable [Dr]
structure St where
 slots : List AV
 heap : List Blk
inductive CRes where
 | loc (v : AV) (ws : List (Nat × Blk)) (rd : List Nat) (n : Nat)
 | whole (v : AV) (H : List Blk)
abbrev CallF := FuncId → List AV → List Blk → Option CRes
noncomputable def getS (l : List AV) : Nat → AV :=
 List.rec (motive := fun _ => Nat → AV) (fun _ => .unk) (fun x _ ih n => Nat.rec (motive := fun _ => AV) x (fun m _ => ih m) n) l
theorem getS_eq (l : List AV) : ∀ n : Nat, getS l n = l.getD n .unk := by
 induction l with
 | nil => intro n; rfl
 | cons x l ih => intro n; cases n with
  | zero => rfl
  | succ n => exact (ih n).trans (by simp)
noncomputable def setK {α : Type} (l : List AV) : Nat → AV → (List AV → α) → α :=
 List.rec (motive := fun _ => Nat → AV → (List AV → α) → α) (fun _ _ k => k []) (fun x xs ih n v k => Nat.rec (motive := fun _ => α) (k (v :: xs)) (fun m _ => ih m v (fun r => k (x :: r))) n) l
theorem setK_eq {α : Type} (l : List AV) : ∀ (n : Nat) (v : AV) (k : List AV → α), setK l n v k = k (l.set n v) := by
 induction l with
 | nil => intro n v k; rfl
 | cons x l ih => intro n v k; cases n with
  | zero => rfl
  | succ n => exact ih n v _
noncomputable def evA (slots : List AV) : Operand → AV
 | .tmp t => getS slots t
 | .const v => .at v
 | .global g => .at (.pointer (some ⟨g, 0, none⟩))
 | .func f => .fn f [] []
def putA (slots : List AV) (dst : Option Tmp) (v : AV) : List AV := match dst with | some d => slots.set d v | none => slots
noncomputable def putK {α : Type} (slots : List AV) (dst : Option Tmp) (v : AV) (k : List AV → α) : α := match dst with | some d => setK slots d v k | none => k slots
theorem putK_eq {α : Type} (slots : List AV) (dst : Option Tmp) (v : AV) (k : List AV → α) : putK slots dst v k = k (putA slots dst v) := by
 cases dst with
 | none => rfl
 | some d => exact setK_eq slots d v k
noncomputable def wantedA (ops : List Oper) (o : Oper) (slots : List AV) : Option Bool :=
 match o.guard with
 | none => some true
 | some (j, want) => match ops[j]? with
  | some oj => (match oj.dst with | some d => (match getS slots d with | .at (.bool b) => some (b == want) | .at (.tuple _) => some false | _ => none) | none => none)
  | none => none
def deads (n : Nat) : List Blk := List.replicate n .dead
structure Ent where
 o : Oper
 nid : Nat
 v : AV
 ws : List (Nat × Blk)
 rd : List Nat
 n : Nat
noncomputable def stepA (P : Program) (call : CallF) (ops : List Oper) (o : Oper) (st : St) : Option (St × Option Ent) :=
 match wantedA ops o st.slots with
 | some true => (match evalOp P (evA st.slots) st.heap st.heap.length o with
  | some (.pure v) => putK st.slots o.dst v fun s => some (⟨s, st.heap⟩, some ⟨o, st.heap.length, v, [], readsOf st.heap (evA st.slots) o, 0⟩)
  | some (.eff v ws) => putK st.slots o.dst v fun s => some (⟨s, updAll st.heap ws⟩, some ⟨o, st.heap.length, v, ws, readsOf st.heap (evA st.slots) o, 0⟩)
  | some (.call f args) => (match call f args st.heap with
   | some (.loc v ws rd n) => putK st.slots o.dst v fun s => some (⟨s, updAll (st.heap ++ deads n) ws⟩, some ⟨o, st.heap.length, v, ws, rd, n⟩)
   | some (.whole v H) => putK st.slots o.dst v fun s => some (⟨s, H⟩, none)
   | none => none)
  | none => none)
 | some false => putK st.slots o.dst (.at undef) fun s => some (⟨s, st.heap⟩, some ⟨o, st.heap.length, .at undef, [], [], 0⟩)
 | none => none
noncomputable def evalOps (P : Program) (call : CallF) (ops : List Oper) : List Oper → St → Option St
 | [], st => some st
 | o :: rest, st => match stepA P call ops o st with
  | some (st', _) => evalOps P call ops rest st'
  | none => none
def entOk (len : Nat) (e : Ent) : Bool :=
 (e.rd.all fun b => decide (b < len)) &&
 match e.n with
 | 0 => e.ws.all fun p => decide (p.1 ≤ len)
 | n + 1 => (e.ws.all fun p => decide (p.1 < len + (n + 1))) && (List.range (n + 1)).all fun j => (e.ws.map (·.1)).contains (len + j)
noncomputable def traceOps (P : Program) (call : CallF) (ops : List Oper) : List Oper → St → Option (St × List Ent)
 | [], st => some (st, [])
 | o :: rest, st => match stepA P call ops o st with
  | some (st', some e) => (match entOk st.heap.length e, traceOps P call ops rest st' with | true, some (st'', es) => some (st'', e :: es) | _, _ => none)
  | _ => none
def opTmps (l : List Operand) : List Tmp := l.filterMap fun | .tmp t => some t | _ => none
def tmpReads (ops : List Oper) (o : Oper) : List Tmp :=
 opTmps o.op.operands.toList ++ (match o.guard with | some (j, _) => (match ops[j]? with | some oj => oj.dst.toList | none => []) | none => [])
def befMask (acc : List Nat) (o : Oper) : Nat := o.after.toList.foldl (fun s e => if Region.binds .any e then s ||| (2 ^ e.on ||| acc.getD e.on 0) else s) 0
def befs : List Nat → List Oper → List Nat
 | acc, [] => acc
 | acc, o :: rest => befs (acc ++ [befMask acc o]) rest
def disj (l k : List Nat) : Bool := l.all fun x => !k.contains x
def free2 (ops : List Oper) (a b : Ent) : Bool :=
 let wa := a.o.dst.toList
 let wb := b.o.dst.toList
 disj wa (tmpReads ops b.o) && disj wa wb && disj wb (tmpReads ops a.o) &&
 disj (a.ws.map (·.1)) b.rd && disj (a.ws.map (·.1)) (b.ws.map (·.1)) && disj (b.ws.map (·.1)) a.rd
def soft2 (ops : List Oper) (a b : Ent) (mid : List Ent) : Bool :=
 match a.o.op, b.o.op with
 | .lookup t (.tmp m) (.tmp k) false, .mapEntry t' (.tmp m') (.tmp k') =>
  Nat.beq t t' && Nat.beq m m' && Nat.beq k k' && a.o.guard.isNone && b.o.guard.isNone && a.ws.isEmpty && disj a.o.dst.toList (tmpReads ops b.o) && disj a.o.dst.toList b.o.dst.toList && disj b.o.dst.toList (tmpReads ops a.o) &&
  mid.all fun c => disj (c.ws.map (·.1)) a.rd && !c.o.dst.toList.contains m && !c.o.dst.toList.contains k
 | _, _ => false
def freeBack (ops : List Oper) (b : Ent) (m : Nat) : List Ent → Nat → Bool
 | [], _ => true
 | a :: es, i => (m.testBit i || free2 ops a b || soft2 ops a b es) && (a.ws.all fun p => decide (p.1 < b.nid)) && freeBack ops b m es (i + 1)
def freeAll (ops : List Oper) (bef : List Nat) (all : List Ent) : List Ent → Nat → Bool
 | [], _ => true
 | b :: es, j => freeBack ops b (bef.getD j 0) (all.take j) 0 && freeAll ops bef all es (j + 1)
def edgesOk : List Oper → Nat → Bool
 | [], _ => true
 | o :: rest, i => o.after.toList.all (fun e => !Region.binds .any e || decide (e.on < i)) && edgesOk rest (i + 1)
noncomputable def evalRegion (P : Program) (call : CallF) (ops : List Oper) (draw : Bool) (st : St) : Option St :=
 match draw with
 | false => evalOps P call ops ops st
 | true => match traceOps P call ops ops st with
  | some (st', es) => (match edgesOk ops 0 && freeAll ops (befs [] ops) es es 0 with | true => some st' | false => none)
  | none => none
inductive X where
 | normal
 | exit (id : Nat)
 | ret
def iter (f : St → Option (X × St)) : Nat → St → Option (X × St)
 | 0, _ => none
 | n + 1, st => match f st with
  | some (.normal, st') => iter f n st'
  | r => r
noncomputable def evalCode (P : Program) (call : CallF) (n : Nat) : Code → St → Option (X × St)
 | .skip, st => some (.normal, st)
 | .label _, st => some (.normal, st)
 | .region _ ops draw, st => (match evalRegion P call ops.toList draw st with | some st' => some (.normal, st') | none => none)
 | .seq a b, st => (match evalCode P call n a st with | some (.normal, st') => evalCode P call n b st' | r => r)
 | .cond c a b, st => (match evA st.slots c with | .at (.bool true) => evalCode P call n a st | .at (.bool false) => evalCode P call n b st | _ => none)
 | .block id c, st => (match evalCode P call n c st with | some (.exit id', st') => (match decide (id' = id) with | true => some (.normal, st') | false => some (.exit id', st')) | r => r)
 | .loop c, st => iter (evalCode P call n c) n st
 | .exit id, st => some (.exit id, st)
 | .ret, st => some (.ret, st)
 | _, _ => none
noncomputable def resultA (P : Program) (st : St) : ResultVar → Option AV
 | .tmp t => some (getS st.slots t)
 | .cell a t => loadA P st.heap t (getS st.slots a)
noncomputable def resultsA (P : Program) (st : St) : List ResultVar → Option (List AV)
 | [] => some []
 | r :: rs => match resultA P st r, resultsA P st rs with | some v, some vs => some (v :: vs) | _, _ => none
def packA : List AV → AV | [v] => v | vs => .tup vs
def unks (n : Nat) : List AV := List.replicate n .unk
def mapO {α β : Type} (f : α → Option β) : List α → Option (List β)
 | [] => some []
 | x :: xs => match f x, mapO f xs with | some y, some ys => some (y :: ys) | _, _ => none
def snapA (H : List Blk) (ok : Nat → Bool) : Nat → AV → Option AV
 | _, .unk => some .unk
 | _, .at v => some (.at v)
 | _, .sl nl cs len => some (.sl nl cs len)
 | _, .pp cs off => some (.pp cs off)
 | 0, _ => none
 | n + 1, .hs b off len es => (match ok b, sliceCells H es (.hs b off len es) with
  | true, some (cs, m) => (match mapO (snapA H ok n) cs with | some cs' => some (.sl true cs' m) | none => none)
  | _, _ => none)
 | n + 1, .hp b off => (match ok b, H[b]? with
  | true, some (.own cs) => (match mapO (snapA H ok n) cs with | some cs' => some (.pp cs' off) | none => none)
  | true, some (.fix cs) => (match mapO (snapA H ok n) cs with | some cs' => some (.pp cs' off) | none => none)
  | _, _ => none)
 | _ + 1, .mp _ => none
 | _ + 1, .hc .. => none
 | n + 1, .agg cs => (match mapO (snapA H ok n) cs with | some cs' => some (.agg cs') | none => none)
 | n + 1, .tup cs => (match mapO (snapA H ok n) cs with | some cs' => some (.tup cs') | none => none)
 | n + 1, .fn f fs cs => (match mapO (snapA H ok n) fs, mapO (snapA H ok n) cs with | some fs', some cs' => some (.fn f fs' cs') | _, _ => none)
mutual
def hasRef : AV → Bool
 | .unk | .at _ => false
 | .agg cs => hasRefL cs
 | .tup cs => hasRefL cs
 | .fn _ fs cs => hasRefL fs || hasRefL cs
 | _ => true
def hasRefL : List AV → Bool
 | [] => false
 | c :: cs => hasRef c || hasRefL cs
end
mutual
def idsOf : AV → List Nat
 | .hs b _ _ _ => [b]
 | .hc b _ _ _ _ => [b]
 | .hp b _ => [b]
 | .mp b => [b]
 | .agg cs => idsOfL cs
 | .tup cs => idsOfL cs
 | .fn _ fs cs => idsOfL fs ++ idsOfL cs
 | _ => []
def idsOfL : List AV → List Nat
 | [] => []
 | c :: cs => idsOf c ++ idsOfL cs
end
def renA (G : List Blk) (ok : Nat → Bool) (ρ : Nat → Option Nat) : Nat → AV → Option AV
 | n, .hs b off len es => (match ρ b with | some c => some (.hs c off len es) | none => snapA G ok n (.hs b off len es))
 | n, .hp b off => (match ρ b with | some c => some (.hp c off) | none => snapA G ok n (.hp b off))
 | n + 1, .agg cs => (match mapO (renA G ok ρ n) cs with | some cs' => some (.agg cs') | none => none)
 | n + 1, .tup cs => (match mapO (renA G ok ρ n) cs with | some cs' => some (.tup cs') | none => none)
 | n, x => snapA G ok n x
def insNat (l : List Nat) (x : Nat) : List Nat := if l.contains x then l else l ++ [x]
def frz : RC → AV
 | .row len _ cs => .sl true cs len
 | .av A => A
def fzC : Blk → Option (List AV)
 | .own cs => some cs
 | .rows rs => some (rs.map frz)
 | _ => none
def freezeW (H : List Blk) (l : List Nat) : List (Nat × Blk) :=
 l.filterMap fun b : Nat => match (H[b]? : Option Blk) with | some (.own cs) => some (b, .fix cs) | some (.rows rs) => some (b, .fix (rs.map frz)) | _ => none
def findAt (l : List Nat) (x base : Nat) : Option Nat := match l with
 | [] => none
 | y :: ys => if y = x then some base else findAt ys x (base + 1)
def bringL (G : List Blk) (ok : Nat → Bool) (n : Nat) : List Nat → Option (List (List AV))
 | [] => some []
 | b :: bs => match G[b]? with
  | some (.own cs) => (match mapO (snapA G ok n) cs, bringL G ok n bs with | some cs', some l => some (cs' :: l) | _, _ => none)
  | _ => none
def numbered (nid : Nat) : List (List AV) → List (Nat × Blk)
 | [] => []
 | x :: xs => (nid, .own x) :: numbered (nid + 1) xs
def isOwnB : Option Blk → Bool | some (.own _) => true | _ => false
def nodupB : List Nat → Bool
 | [] => true
 | x :: xs => !xs.contains x && nodupB xs
def bringA (n : Nat) (l : List Nat) (H G : List Blk) (r : AV) : Option CRes :=
 match hasRef r with
 | false => some (.loc r [] l 0)
 | true =>
  let σ := ((idsOf r).filter fun b => isOwnB G[b]?).foldl insNat []
  match nodupB σ, bringL G (fun b => !σ.contains b) n σ, renA G (fun b => !σ.contains b) (findAt σ · H.length) n r with
  | true, some new, some r' => some (.loc r' (freezeW H l ++ numbered H.length new) l new.length)
  | _, _, _ => none
end Go.Eng


namespace Go.Eng
open Go Go.RowKit
variable [Dr]
def CallOk (P : Program) (f : FuncId) (args : List AV) (H : List Blk) : CRes → Prop
 | .loc v ws rd n => ∀ H' : List Blk, H.length + n ≤ H'.length → (∀ b ∈ rd, b < H.length → H'[b]? = H[b]?) → ∀ (out : Nat → Prop) (B : Nat → Prop) (w : World) (π : List (Option PB)) (vs : List Value),
   Inv out B w π H' → (∀ j, H.length ≤ j → j < H.length + n → ∀ q, π[j]? ≠ some (some q)) → RvL w (muOf out π H') π args vs →
   Calls P f vs.toArray w fun e w' => ∃ u π', e = .returned u ∧ Ext B w w' (muOf out π H') (muOf out π' (updAll H' ws)) π π' ∧ Inv out B w' π' (updAll H' ws) ∧ Rv w' (muOf out π' (updAll H' ws)) π' v u ∧
    ∀ j, (∀ b, (j, b) ∉ ws) → π'[j]? = π[j]?
 | .whole v H' => ∀ (out : Nat → Prop) (B : Nat → Prop) (w : World) (π : List (Option PB)) (vs : List Value), Inv out B w π H → RvL w (muOf out π H) π args vs →
   Calls P f vs.toArray w fun e w' => ∃ u π', e = .returned u ∧ Ext B w w' (muOf out π H) (muOf out π' H') π π' ∧ Inv out B w' π' H' ∧ Rv w' (muOf out π' H') π' v u
def CallsOk (P : Program) (call : CallF) : Prop := ∀ f args H r, call f args H = some r → CallOk P f args H r
structure Rep (out : Nat → Prop) (B : Nat → Prop) (w : World) (π : List (Option PB)) (st : St) (a : Act) : Prop where
 defers : a.defers = []
 slots : RvL w (muOf out π st.heap) π st.slots a.tmps.toList
 inv : Inv out B w π st.heap
section
variable {P : Program} {out : Nat → Prop} {B : Nat → Prop} {w : World} {π : List (Option PB)}
theorem slot_sound {mu : Nat → Prop} {slots : List AV} {tmps : Array Value} (h : RvL w mu π slots tmps.toList) (t : Nat) : Rv w mu π (getS slots t) (tmps.getD t undef) := by
 rw [getS_eq]
 cases hs : slots[t]? with
 | none => simp [List.getD, hs, Rv]
 | some A =>
  obtain ⟨v, h1, h2⟩ := RvL.get _ _ t A h hs
  have e1 : slots.getD t .unk = A := by simp [List.getD, hs]
  have e2 : tmps.getD t undef = v := by
   rw [Array.getElem?_toList] at h1
   rw [Array.getD_eq_getD_getElem?, h1]; rfl
  rw [e1, e2]; exact h2
theorem evA_sound {mu : Nat → Prop} {slots : List AV} {a : Act} (h : RvL w mu π slots a.tmps.toList) : ∀ x, Rv w mu π (evA slots x) (a.eval x)
 | .tmp t => slot_sound h t
 | .const _ => rfl
 | .global _ => rfl
 | .func _ => ⟨#[], #[], rfl, rfl, rfl⟩
theorem wantedA_sound {mu : Nat → Prop} {ops : Array Oper} {o : Oper} {slots : List AV} {a : Act} {b : Bool} (h : RvL w mu π slots a.tmps.toList) (hw : wantedA ops.toList o slots = some b) :
  Region.wanted o (yielded ops a.tmps) = b := by
 unfold wantedA at hw
 unfold Region.wanted
 split at hw
 · rename_i hg; cases hw; simp [hg]
 · rename_i j want hg
   split at hw
   · rename_i oj hj
     split at hw
     · rename_i d hd
       split at hw
       · rename_i c hc
         cases hw
         have hs := slot_sound h d
         rw [hc] at hs
         have hv : a.tmps.getD d undef = .bool c := hs
         have hv' : a.tmps[d]? = some (.bool c) := by
          rw [Array.getD_eq_getD_getElem?] at hv
          cases ht : a.tmps[d]? with
          | none => rw [ht] at hv; simp [undef] at hv
          | some x => rw [ht] at hv; simpa using hv
         have hy : yielded ops a.tmps j = some c := by
          rw [Array.getElem?_toList] at hj
          simp [yielded, hj, hd, hv']
         simp [hg, hy]
       · rename_i vs hc
         cases hw
         have hs := slot_sound h d
         rw [hc] at hs
         have hv : a.tmps.getD d undef = .tuple vs := hs
         have hy : yielded ops a.tmps j = none := by
          rw [Array.getElem?_toList] at hj
          rw [Array.getD_eq_getD_getElem?] at hv
          cases ht : a.tmps[d]? with
          | none => simp [yielded, hj, hd, ht]
          | some x => rw [ht] at hv; simp only [Option.getD_some] at hv; subst hv; simp [yielded, hj, hd, ht]
         simp [hg, hy]
       · cases hw
     · cases hw
   · cases hw
theorem put_sound {mu : Nat → Prop} {slots : List AV} {a : Act} {dst : Option Tmp} {A : AV} {v : Value} (h : RvL w mu π slots a.tmps.toList) (hA : Rv w mu π A v) : RvL w mu π (putA slots dst A) (a.put dst v).tmps.toList := by
 cases dst with
 | none => exact h
 | some d => simp only [putA, Act.put, Array.toList_setIfInBounds]; exact RvL.set _ _ d A v h hA
theorem put_defers {a : Act} {dst : Option Tmp} {v : Value} : (a.put dst v).defers = a.defers := by cases dst <;> rfl
theorem Inv.extend {H : List Blk} (hI : Inv out B w π H) (n : Nat) :
  Inv out B w (π ++ List.replicate n none) (H ++ deads n) ∧ Ext B w w (muOf out π H) (muOf out (π ++ List.replicate n none) (H ++ deads n)) π (π ++ List.replicate n none) := by
 have hl := hI.len
 have gH : ∀ {i : Nat} {x : Blk}, (H ++ deads n)[i]? = some x → H[i]? = some x ∨ (H.length ≤ i ∧ x = .dead) := by
  intro i x h
  by_cases hi : i < H.length
  · rw [List.getElem?_append_left hi] at h; exact .inl h
  · rw [List.getElem?_append_right (by omega)] at h
    refine .inr ⟨by omega, ?_⟩
    have := List.mem_of_getElem? h
    simp [deads] at this
    exact this.2
 have gπ : ∀ {i : Nat} {p : PB}, (π ++ List.replicate n none)[i]? = some (some p) → π[i]? = some (some p) := by
  intro i p h
  by_cases hi : i < π.length
  · rwa [List.getElem?_append_left hi] at h
  · rw [List.getElem?_append_right (by omega)] at h
    have := List.mem_of_getElem? h
    simp at this
 have hE : Ext B w w (muOf out π H) (muOf out (π ++ List.replicate n none) (H ++ deads n)) π (π ++ List.replicate n none) := by
  refine ⟨fun _ _ => rfl, Nat.le_refl _, fun b _ hb => ⟨rfl, ?_⟩, fun i p h => ?_, rfl, rfl, rfl, fun _ => Nat.le_refl _⟩
  · rintro (ho | ⟨i, x, p, h1, h2, h3, h4⟩)
    · exact hb (.inl ho)
    · rcases gH h1 with h1' | ⟨_, rfl⟩
      · exact hb (.inr ⟨i, x, p, h1', h2, gπ h3, h4⟩)
      · simp [Blk.isMut] at h2
  · rw [List.getElem?_append_left (getElem?_lt h)]; exact h
 refine ⟨⟨by simp [hl, deads], hI.bound, hI.out_lt, ?_, ?_, ?_⟩, hE⟩
 · intro i x p b h1 h2 h3
   rcases gH h1 with h1' | ⟨_, rfl⟩
   · exact hI.baseO i x p b h1' (gπ h2) h3
   · exact h3.elim
 · intro i x p h1 h2
   rcases gH h1 with h1' | ⟨_, rfl⟩
   · exact BlkOk.ext hE (fun _ _ => rfl) (hI.ok i x p h1' (gπ h2))
   · trivial
 · intro i j x y p q b hij h1 h2 h3 h4 h5 h6 h7
   rcases gH h1 with h1' | ⟨_, rfl⟩
   · rcases gH h2 with h2' | ⟨_, rfl⟩
     · exact hI.sepO i j x y p q b hij h1' h2' (gπ h3) (gπ h4) h5 h6 h7
     · exact h7.elim
   · simp [Blk.isMut] at h5
theorem pi_none {H : List Blk} (hI : Inv out B w π H) : ∀ q, π[H.length]? ≠ some (some q) := by
 intro q h; have := getElem?_lt h; have := hI.len; omega
theorem Rep.ext {w' : World} {π' : List (Option PB)} {H H' : List Blk} {slots : List AV} {a : Act} (hd : a.defers = []) (hs : RvL w (muOf out π H) π slots a.tmps.toList) (hE : Ext B w w' (muOf out π H) (muOf out π' H') π π') (hI : Inv out B w' π' H')
  {dst : Option Tmp} {A : AV} {v : Value} (hA : Rv w' (muOf out π' H') π' A v) : Rep out B w' π' ⟨putA slots dst A, H'⟩ (a.put dst v) :=
 ⟨by rw [put_defers]; exact hd, put_sound (RvL.ext hE _ _ hs) hA, hI⟩
theorem stepA_sound (hng : NoNG P) {call : CallF} (hcall : CallsOk P call) {ops : Array Oper} {o : Oper} {st st' : St} {oe : Option Ent} {a : Act} (hR : Rep out B w π st a) (h : stepA P call ops.toList o st = some (st', oe))
  {K : Act → World → Prop} {Q : Exit → Act → World → Prop}
  (hK : ∀ a' w' π', Rep out B w' π' st' a' → Ext B w w' (muOf out π st.heap) (muOf out π' st'.heap) π π' → K a' w') :
  if Region.wanted o (yielded ops a.tmps) then o.wp P a w K Q ∨ (o.asks P a w ∧ LetsOut Q) else K (a.put o.dst undef) w := by
 unfold stepA at h
 split at h
 · rename_i hw
   rw [if_pos (wantedA_sound hR.slots hw)]
   refine .inl ?_
   unfold Oper.wp
   split at h
   · rename_i v hv
     rw [putK_eq] at h
     cases h
     obtain ⟨nx, u, h1, h2, h3⟩ := evalOp_sound hng hR.inv (Nat.le_refl _) (pi_none hR.inv) (evA_sound hR.slots) hv
     rw [h1]
     rcases h2 with rfl | ⟨rfl, rfl⟩
     · exact hK _ _ π (Rep.ext hR.defers hR.slots (Ext.refl _ _ _) hR.inv h3) (Ext.refl _ _ _)
     · exact hK _ _ π (Rep.ext hR.defers hR.slots (Ext.refl _ _ _) hR.inv h3) (Ext.refl _ _ _)
   · rename_i v ws hv
     rw [putK_eq] at h
     cases h
     obtain ⟨nx, u, w', π', h1, h2, h3, h4, h5, _⟩ := evalOp_sound hng hR.inv (Nat.le_refl _) (pi_none hR.inv) (evA_sound hR.slots) hv
     rw [h1]
     rcases h2 with rfl | ⟨rfl, rfl⟩
     · exact hK _ _ π' (Rep.ext hR.defers hR.slots h3 h4 h5) h3
     · exact hK _ _ π' (Rep.ext hR.defers hR.slots h3 h4 h5) h3
   · rename_i f args hv
     obtain ⟨vs, h1, h2⟩ := evalOp_sound hng hR.inv (Nat.le_refl _) (pi_none hR.inv) (evA_sound hR.slots) hv
     rw [h1]
     simp only [Oper.upon]
     split at h
     · rename_i v ws rd n hc
       rw [putK_eq] at h
       cases h
       obtain ⟨hI1, hE1⟩ := hR.inv.extend n
       have hl := hR.inv.len
       have := hcall _ _ _ _ hc (st.heap ++ deads n) (by simp [deads]) (fun b _ hlt => by rw [List.getElem?_append_left hlt]) out B w (π ++ List.replicate n none) vs.toList hI1 (fun j h1 _ q hq => by
             rw [List.getElem?_append_right (by omega)] at hq
             have := List.mem_of_getElem? hq
             simp at this) (RvL.ext hE1 _ _ h2)
       rw [Array.toArray_toList] at this
       refine this.mono ?_
       rintro e w'' ⟨u, π', rfl, g1, g2, g3, _⟩
       exact hK _ _ π' (Rep.ext hR.defers (RvL.ext hE1 _ _ hR.slots) g1 g2 g3) (hE1.trans g1)
     · rename_i v H' hc
       rw [putK_eq] at h
       cases h
       have := hcall _ _ _ _ hc out B w π vs.toList hR.inv h2
       rw [Array.toArray_toList] at this
       refine this.mono ?_
       rintro e w'' ⟨u, π', rfl, g1, g2, g3⟩
       exact hK _ _ π' (Rep.ext hR.defers hR.slots g1 g2 g3) g1
     · cases h
   · cases h
 · rename_i hw
   rw [wantedA_sound hR.slots hw]
   simp only [Bool.false_eq_true, if_false]
   rw [putK_eq] at h
   cases h
   exact hK _ _ π (Rep.ext hR.defers hR.slots (Ext.refl _ _ _) hR.inv rfl) (Ext.refl _ _ _)
 · cases h
end
end Go.Eng

