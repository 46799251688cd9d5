import Derived.Test.YtlpfiiejhikalaaGreatEng5Trks
set_option linter.all false
namespace Go.Eng
open Go Go.RowKit
variable [Dr]
theorem uP {P : Program} {ρ : Operand -> AV} {H H' : List Blk} {nid : Nat} {o : Oper} (h : ∀ b ∈ lB H ρ o, H[b]? = H'[b]?) : evalOp P ρ H nid o = evalOp P ρ H' nid o := by
 have cellAt_eq : ∀ a : AV, (∀ b ∈ cI a, H[b]? = H'[b]?) -> cellAt H a = cellAt H' a := by
  intro a ha; cases a <;> simp only [cellAt]
  rw [ha _ (by simp [cI])]
 have cellsFrom_eq : ∀ a : AV, (∀ b ∈ cI a, H[b]? = H'[b]?) -> jL H a = jL H' a := by
  intro a ha; cases a <;> simp only [jL]
  rw [ha _ (by simp [cI])]
 have sliceCells_eq : ∀ (n : Nat) (a : AV), (∀ b ∈ cI a, H[b]? = H'[b]?) -> gv H n a = gv H' n a := by
  intro n a ha
  unfold gv
  split <;> try rfl
  rw [ha _ (by simp [cI])]
 have mapAt_eq : ∀ a : AV, (∀ b ∈ cI a, H[b]? = H'[b]?) -> fO H a = fO H' a := by
  intro a ha; cases a <;> simp only [fO]
  rw [ha _ (by simp [cI])]
 have mapRAt_eq : ∀ a : AV, (∀ b ∈ cI a, H[b]? = H'[b]?) -> jS H a = jS H' a := by
  intro a ha; cases a <;> simp only [jS]
  rw [ha _ (by simp [cI])]
 unfold evalOp
 unfold lB at h
 cases hop : o.op <;> simp only [hop, rl, mX, sG, og, gF, oy, kf, lu, iv, oP, o9, jf] at h ⊢
 case load t a =>
  simp only [sg, cellAt_eq _ h, cellsFrom_eq _ h]
 case store t a x =>
  simp only [tL]
  cases ha : ρ a <;> simp only
  rw [h _ (by simp [ha, cI])]
 case slice t x lo hi mx =>
  cases mx with
  | some _ => rfl
  | none =>
   simp only
   have : ∀ y lo hi, (∀ b ∈ cI y, H[b]? = H'[b]?) -> pA P H t y lo hi = pA P H' t y lo hi := by
    intro y lo hi hy
    simp only [pA]
    cases P.underlying t with
    | none => rfl
    | some d =>
     cases d <;> simp only
     cases dM P _ <;> cases y <;> simp only
     rw [hy _ (by simp [cI])]
   split
   · rfl
   · rw [this _ _ _ h]
 case makeFunc fn fs cs => cases fn <;> rfl
 case lookup t x ix ok => simp only [dj, mapAt_eq _ h]
 case mapUpdate t m k x => simp only [fA, mapAt_eq _ h]
 case insert t m k x => simp only [fA, mapAt_eq _ h]
 case mapEntry t m k => simp only [eR, mapAt_eq _ h, fy, mapRAt_eq _ h]
 case entryStore t m k x => simp only [dv, mapAt_eq _ h, dr, mapRAt_eq _ h]
 case range t x => simp only [jE, mapAt_eq _ h]
 case entry it =>
  have h1 : mz H (ρ it) = mz H' (ρ it) := by
   unfold mz
   split
   · rename_i j heq; rw [h j (by rw [heq]; simp [cI])]
   · rfl
  simp only [fD, <- h1]
  cases hi : mz H (ρ it) with
  | none => rfl
  | some q => obtain ⟨m, n, seen⟩ := q; simp only; rw [h m (by simp [hi])]
 case call c =>
  cases hc : c.callee <;> simp only
  simp only [jr]
  split <;> try rfl
  · rename_i x heq
    have h1 : ∀ b ∈ cI x, H[b]? = H'[b]? := by
     intro b hb
     refine h b (List.mem_flatMap.2 ?_)
     have : x ∈ c.args.toList.map ρ := by rw [heq]; simp
     obtain ⟨y, hy, rfl⟩ := List.mem_map.1 this
     exact ⟨y, hy, hb⟩
    have : ∀ t, yC P H t x = yC P H' t x := by
     intro t
     unfold yC
     split
     · rw [h1 _ (by simp [cI])]
     · rfl
    simp only [this]
  · rename_i s x heq
    have h1 : ∀ b ∈ cI s, H[b]? = H'[b]? := by
     intro b hb
     refine h b (List.mem_flatMap.2 ?_)
     have : s ∈ c.args.toList.map ρ := by rw [heq]; simp
     obtain ⟨y, hy, rfl⟩ := List.mem_map.1 this
     exact ⟨y, hy, hb⟩
    have h2 : ∀ b ∈ cI x, H[b]? = H'[b]? := by
     intro b hb
     refine h b (List.mem_flatMap.2 ?_)
     have : x ∈ c.args.toList.map ρ := by rw [heq]; simp
     obtain ⟨y, hy, rfl⟩ := List.mem_map.1 this
     exact ⟨y, hy, hb⟩
    have : ∀ n by_, fX H nid n by_ s x = fX H' nid n by_ s x := by
     intro n by_
     simp only [fX, sliceCells_eq _ _ h2]
     split
     · rfl
     · split
       · rfl
       · rfl
       · rw [h1 _ (by simp [cI])]
       · rw [h1 _ (by simp [cI])]
       · rfl
    simp only [this]
  · rename_i s x heq
    have h1 : ∀ b ∈ cI s, H[b]? = H'[b]? := by
     intro b hb
     refine h b (List.mem_flatMap.2 ?_)
     have : s ∈ c.args.toList.map ρ := by rw [heq]; simp
     obtain ⟨y, hy, rfl⟩ := List.mem_map.1 this
     exact ⟨y, hy, hb⟩
    have h2 : ∀ b ∈ cI x, H[b]? = H'[b]? := by
     intro b hb
     refine h b (List.mem_flatMap.2 ?_)
     have : x ∈ c.args.toList.map ρ := by rw [heq]; simp
     obtain ⟨y, hy, rfl⟩ := List.mem_map.1 this
     exact ⟨y, hy, hb⟩
    have : ∀ n, qR H n s x = qR H' n s x := by
     intro n
     simp only [qR, sliceCells_eq _ _ h2]
     split
     · rfl
     · split
       · rw [h1 _ (by simp [cI])]
       · rfl
    simp only [this]
  · rename_i d heq
    have h1 : ∀ b ∈ cI d, H[b]? = H'[b]? := by
     intro b hb
     refine h b (List.mem_flatMap.2 ?_)
     have : d ∈ c.args.toList.map ρ := by rw [heq]; simp
     obtain ⟨y, hy, rfl⟩ := List.mem_map.1 this
     exact ⟨y, hy, hb⟩
    have : ∀ n z, n5 H n z d = n5 H' n z d := by
     intro n z
     simp only [n5]
     split
     · rw [h1 _ (by simp [cI])]
     · rfl
    simp only [this]
theorem qW {P : Program} {ρ ρ' : Operand -> AV} {H : List Blk} {nid : Nat} {o : Oper} (h : ∀ x ∈ o.op.operands.toList, ρ x = ρ' x) : evalOp P ρ H nid o = evalOp P ρ' H nid o := by
 have hparts : ∀ (l : List (Nat × Operand)), (∀ x ∈ (l.map (·.2)), ρ x = ρ' x) -> (l.map fun p => (p.1, ρ p.2)) = l.map fun p => (p.1, ρ' p.2) := by
  intro l hl
  apply List.map_congr_left
  intro p hp
  rw [hl _ (List.mem_map_of_mem hp)]
 have hmap : ∀ (l : List Operand), (∀ x ∈ l, ρ x = ρ' x) -> l.map ρ = l.map ρ' := fun l hl => List.map_congr_left hl
 unfold evalOp
 cases hop : o.op <;> simp only [hop, Op.operands, rl, mX, sG, og, gF, oy, kf, lu, iv, oP, o9, jf] at h ⊢
 case move x => rw [h x (by simp)]
 case «assign» x => rw [h x (by simp)]
 case pick c a b => rw [h c (by simp), h a (by simp), h b (by simp)]
 case box t x => rw [h x (by simp)]
 case build t ps => rw [hparts _ (by simpa using h)]
 case buildSlice t n ps => rw [hparts _ (by simpa using h)]
 case load t a => rw [h a (by simp)]
 case store t a x => rw [h a (by simp), h x (by simp)]
 case nilCheck x => rw [h x (by simp)]
 case binOp op t x y u => rw [h x (by simp), h y (by simp)]
 case unOp op t x => rw [h x (by simp)]
 case convert s d x => rw [h x (by simp)]
 case makeFunc fn fs cs =>
  cases fn <;> simp only
  rw [hmap fs.toList (fun x hx => h x (by simp at hx ⊢; exact .inl hx)), hmap cs.toList (fun x hx => h x (by simp at hx ⊢; exact .inr hx))]
 case makeSlice t l c => rw [h l (by simp), h c (by simp)]
 case slice t x lo hi mx =>
  cases mx with
  | some _ => rfl
  | none =>
   have e1 : ρ x = ρ' x := h x (by simp)
   have e2 : lo.map ρ = lo.map ρ' := by cases lo with | none => rfl | some y => simp [h y (by simp)]
   have e3 : hi.map ρ = hi.map ρ' := by cases hi with | none => rfl | some y => simp [h y (by simp)]
   simp only [e1, e2, e3]
   cases lo <;> cases hi <;> simp_all
 case fieldAddr s x f => rw [h x (by simp)]
 case field s x f => rw [h x (by simp)]
 case indexAddr t x ix => rw [h x (by simp), h ix (by simp)]
 case index t x ix => rw [h x (by simp), h ix (by simp)]
 case extract t ix => rw [h t (by simp)]
 case makeMap t r =>
  have e : r.map ρ = r.map ρ' := by cases r with | none => rfl | some y => simp [h y (by simp)]
  rw [e]
 case lookup t x ix ok => rw [h x (by simp), h ix (by simp)]
 case mapUpdate t m k x => rw [h m (by simp), h k (by simp), h x (by simp)]
 case insert t m k x => rw [h m (by simp), h k (by simp), h x (by simp)]
 case mapEntry t m k => rw [h m (by simp), h k (by simp)]
 case range t x => rw [h x (by simp)]
 case entry it => rw [h it (by simp)]
 case entryStore t m k x => rw [h m (by simp), h k (by simp), h x (by simp)]
 case call c =>
  have ha : c.args.toList.map ρ = c.args.toList.map ρ' := hmap _ fun x hx => h x (by simp only [Call.operands, Array.toList_append, List.mem_append]; exact .inr hx)
  cases hc : c.callee <;> simp only
  case value f =>
   have : ρ f = ρ' f := h f (by simp [Call.operands, hc])
   rw [this, ha]
  case builtin b => rw [ha]
end Go.Eng


namespace Go.Eng
open Go Go.RowKit
variable [Dr]
structure St where
 slots : List AV
 heap : List Blk
inductive qe where
 | loc (v : AV) (ws : List (Nat × Blk)) (rd : List Nat) (n : Nat)
 | whole (v : AV) (H : List Blk)
abbrev dN := FuncId -> List AV -> List Blk -> Option qe
noncomputable def ox (l : List AV) : Nat -> AV :=
 List.rec (motive := fun _ => Nat -> AV) (fun _ => .unk) (fun x _ ih n => Nat.rec (motive := fun _ => AV) x (fun m _ => ih m) n) l
theorem nf (l : List AV) : ∀ n : Nat, ox l n = l.getD n .unk := by
 induction l with
 | nil => intro n; rfl
 | cons x l ih => intro n; cases n with
  | zero => rfl
  | succ n => exact (ih n).trans (by simp)
noncomputable def Cg {α : Type} (l : List AV) : Nat -> AV -> (List AV -> α) -> α :=
 List.rec (motive := fun _ => Nat -> AV -> (List AV -> α) -> α) (fun _ _ k => k []) (fun x xs ih n v k => Nat.rec (motive := fun _ => α) (k (v :: xs)) (fun m _ => ih m v (fun r => k (x :: r))) n) l
theorem z6 {α : Type} (l : List AV) : ∀ (n : Nat) (v : AV) (k : List AV -> α), Cg l n v k = k (l.set n v) := by
 induction l with
 | nil => intro n v k; rfl
 | cons x l ih => intro n v k; cases n with
  | zero => rfl
  | succ n => exact ih n v _
noncomputable def evA (slots : List AV) : Operand -> AV
 | .tmp t => ox slots t
 | .const v => .at v
 | .global g => .at (.pointer (some ⟨g, 0, none⟩))
 | .func f => .fn f [] []
def eS (slots : List AV) (dst : Option Tmp) (v : AV) : List AV := match dst with | some d => slots.set d v | none => slots
noncomputable def xF {α : Type} (slots : List AV) (dst : Option Tmp) (v : AV) (k : List AV -> α) : α := match dst with | some d => Cg slots d v k | none => k slots
theorem dz {α : Type} (slots : List AV) (dst : Option Tmp) (v : AV) (k : List AV -> α) : xF slots dst v k = k (eS slots dst v) := by
 cases dst with
 | none => rfl
 | some d => exact z6 slots d v k
noncomputable def cE (ops : List Oper) (o : Oper) (slots : List AV) : Option Bool :=
 match o.guard with
 | none => some true
 | some (j, want) => match ops[j]? with
  | some oj => (match oj.dst with | some d => (match ox slots d with | .at (.bool b) => some (b == want) | .at (.tuple _) => some false | _ => none) | none => none)
  | none => none
def ft (n : Nat) : List Blk := List.replicate n .dead
structure Ent where
 o : Oper
 nid : Nat
 v : AV
 ws : List (Nat × Blk)
 rd : List Nat
 n : Nat
noncomputable def gP (P : Program) (call : dN) (ops : List Oper) (o : Oper) (st : St) : Option (St × Option Ent) :=
 match cE ops o st.slots with
 | some true => (match evalOp P (evA st.slots) st.heap st.heap.length o with
  | some (.pure v) => xF st.slots o.dst v fun s => some (⟨s, st.heap⟩, some ⟨o, st.heap.length, v, [], lB st.heap (evA st.slots) o, 0⟩)
  | some (.eff v ws) => xF st.slots o.dst v fun s => some (⟨s, aO st.heap ws⟩, some ⟨o, st.heap.length, v, ws, lB st.heap (evA st.slots) o, 0⟩)
  | some (.call f args) => (match call f args st.heap with
   | some (.loc v ws rd n) => xF st.slots o.dst v fun s => some (⟨s, aO (st.heap ++ ft n) ws⟩, some ⟨o, st.heap.length, v, ws, rd, n⟩)
   | some (.whole v H) => xF st.slots o.dst v fun s => some (⟨s, H⟩, none)
   | none => none)
  | none => none)
 | some false => xF st.slots o.dst (.at undef) fun s => some (⟨s, st.heap⟩, some ⟨o, st.heap.length, .at undef, [], [], 0⟩)
 | none => none
noncomputable def e9 (P : Program) (call : dN) (ops : List Oper) : List Oper -> St -> Option St
 | [], st => some st
 | o :: rest, st => match gP P call ops o st with
  | some (st', _) => e9 P call ops rest st'
  | none => none
def jC (len : Nat) (e : Ent) : Bool :=
 (e.rd.all fun b => decide (b < len)) &&
 match e.n with
 | 0 => e.ws.all fun p => decide (p.1 <= len)
 | n + 1 => (e.ws.all fun p => decide (p.1 < len + (n + 1))) && (List.range (n + 1)).all fun j => (e.ws.map (·.1)).contains (len + j)
noncomputable def dY (P : Program) (call : dN) (ops : List Oper) : List Oper -> St -> Option (St × List Ent)
 | [], st => some (st, [])
 | o :: rest, st => match gP P call ops o st with
  | some (st', some e) => (match jC st.heap.length e, dY P call ops rest st' with | true, some (st'', es) => some (st'', e :: es) | _, _ => none)
  | _ => none
def vu (l : List Operand) : List Tmp := l.filterMap fun | .tmp t => some t | _ => none
def di (ops : List Oper) (o : Oper) : List Tmp :=
 vu o.op.operands.toList ++ (match o.guard with | some (j, _) => (match ops[j]? with | some oj => oj.dst.toList | none => []) | none => [])
def qp (acc : List Nat) (o : Oper) : Nat := o.after.toList.foldl (fun s e => if Region.binds .any e then s ||| (2 ^ e.on ||| acc.getD e.on 0) else s) 0
def oa : List Nat -> List Oper -> List Nat
 | acc, [] => acc
 | acc, o :: rest => oa (acc ++ [qp acc o]) rest
def nM (l k : List Nat) : Bool := l.all fun x => !k.contains x
def uB (ops : List Oper) (a b : Ent) : Bool :=
 let wa := a.o.dst.toList
 let wb := b.o.dst.toList
 nM wa (di ops b.o) && nM wa wb && nM wb (di ops a.o) &&
 nM (a.ws.map (·.1)) b.rd && nM (a.ws.map (·.1)) (b.ws.map (·.1)) && nM (b.ws.map (·.1)) a.rd
def nq (ops : List Oper) (a b : Ent) (mid : List Ent) : Bool :=
 match a.o.op, b.o.op with
 | .lookup t (.tmp m) (.tmp k) false, .mapEntry t' (.tmp m') (.tmp k') =>
  Nat.beq t t' && Nat.beq m m' && Nat.beq k k' && a.o.guard.isNone && b.o.guard.isNone && a.ws.isEmpty && nM a.o.dst.toList (di ops b.o) && nM a.o.dst.toList b.o.dst.toList && nM b.o.dst.toList (di ops a.o) &&
  mid.all fun c => nM (c.ws.map (·.1)) a.rd && !c.o.dst.toList.contains m && !c.o.dst.toList.contains k
 | _, _ => false
def mw (ops : List Oper) (b : Ent) (m : Nat) : List Ent -> Nat -> Bool
 | [], _ => true
 | a :: es, i => (m.testBit i || uB ops a b || nq ops a b es) && (a.ws.all fun p => decide (p.1 < b.nid)) && mw ops b m es (i + 1)
def kC (ops : List Oper) (bef : List Nat) (all : List Ent) : List Ent -> Nat -> Bool
 | [], _ => true
 | b :: es, j => mw ops b (bef.getD j 0) (all.take j) 0 && kC ops bef all es (j + 1)
def lF : List Oper -> Nat -> Bool
 | [], _ => true
 | o :: rest, i => o.after.toList.all (fun e => !Region.binds .any e || decide (e.on < i)) && lF rest (i + 1)
noncomputable def gC (P : Program) (call : dN) (ops : List Oper) (draw : Bool) (st : St) : Option St :=
 match draw with
 | false => e9 P call ops ops st
 | true => match dY P call ops ops st with
  | some (st', es) => (match lF ops 0 && kC ops (oa [] ops) es es 0 with | true => some st' | false => none)
  | none => none
inductive X where
 | normal
 | exit (id : Nat)
 | ret
def iter (f : St -> Option (X × St)) : Nat -> St -> Option (X × St)
 | 0, _ => none
 | n + 1, st => match f st with
  | some (.normal, st') => iter f n st'
  | r => r
noncomputable def evalCode (P : Program) (call : dN) (n : Nat) : Code -> St -> Option (X × St)
 | .skip, st => some (.normal, st)
 | .label _, st => some (.normal, st)
 | .region _ ops draw, st => (match gC P call ops.toList draw st with | some st' => some (.normal, st') | none => none)
 | .seq a b, st => (match evalCode P call n a st with | some (.normal, st') => evalCode P call n b st' | r => r)
 | .cond c a b, st => (match evA st.slots c with | .at (.bool true) => evalCode P call n a st | .at (.bool false) => evalCode P call n b st | _ => none)
 | .block id c, st => (match evalCode P call n c st with | some (.exit id', st') => (match decide (id' = id) with | true => some (.normal, st') | false => some (.exit id', st')) | r => r)
 | .loop c, st => iter (evalCode P call n c) n st
 | .exit id, st => some (.exit id, st)
 | .ret, st => some (.ret, st)
 | _, _ => none
noncomputable def ql (P : Program) (st : St) : ResultVar -> Option AV
 | .tmp t => some (ox st.slots t)
 | .cell a t => sg P st.heap t (ox st.slots a)
noncomputable def dx (P : Program) (st : St) : List ResultVar -> Option (List AV)
 | [] => some []
 | r :: rs => match ql P st r, dx P st rs with | some v, some vs => some (v :: vs) | _, _ => none
def fR : List AV -> AV | [v] => v | vs => .tup vs
def oO (n : Nat) : List AV := List.replicate n .unk
def pF {α β : Type} (f : α -> Option β) : List α -> Option (List β)
 | [] => some []
 | x :: xs => match f x, pF f xs with | some y, some ys => some (y :: ys) | _, _ => none
def lf (H : List Blk) (ok : Nat -> Bool) : Nat -> AV -> Option AV
 | _, .unk => some .unk
 | _, .at v => some (.at v)
 | _, .sl nl cs len => some (.sl nl cs len)
 | _, .pp cs off => some (.pp cs off)
 | 0, _ => none
 | n + 1, .hs b off len es => (match ok b, gv H es (.hs b off len es) with
  | true, some (cs, m) => (match pF (lf H ok n) cs with | some cs' => some (.sl true cs' m) | none => none)
  | _, _ => none)
 | n + 1, .hp b off => (match ok b, H[b]? with
  | true, some (.own cs) => (match pF (lf H ok n) cs with | some cs' => some (.pp cs' off) | none => none)
  | true, some (.fix cs) => (match pF (lf H ok n) cs with | some cs' => some (.pp cs' off) | none => none)
  | _, _ => none)
 | _ + 1, .mp _ => none
 | _ + 1, .hc .. => none
 | n + 1, .agg cs => (match pF (lf H ok n) cs with | some cs' => some (.agg cs') | none => none)
 | n + 1, .tup cs => (match pF (lf H ok n) cs with | some cs' => some (.tup cs') | none => none)
 | n + 1, .fn f fs cs => (match pF (lf H ok n) fs, pF (lf H ok n) cs with | some fs', some cs' => some (.fn f fs' cs') | _, _ => none)
mutual
def lJ : AV -> Bool
 | .unk | .at _ => false
 | .agg cs => lz cs
 | .tup cs => lz cs
 | .fn _ fs cs => lz fs || lz cs
 | _ => true
def lz : List AV -> Bool
 | [] => false
 | c :: cs => lJ c || lz cs
end
mutual
def jh : AV -> List Nat
 | .hs b _ _ _ => [b]
 | .hc b _ _ _ _ => [b]
 | .hp b _ => [b]
 | .mp b => [b]
 | .agg cs => cn cs
 | .tup cs => cn cs
 | .fn _ fs cs => cn fs ++ cn cs
 | _ => []
def cn : List AV -> List Nat
 | [] => []
 | c :: cs => jh c ++ cn cs
end
def Au (G : List Blk) (ok : Nat -> Bool) (ρ : Nat -> Option Nat) : Nat -> AV -> Option AV
 | n, .hs b off len es => (match ρ b with | some c => some (.hs c off len es) | none => lf G ok n (.hs b off len es))
 | n, .hp b off => (match ρ b with | some c => some (.hp c off) | none => lf G ok n (.hp b off))
 | n + 1, .agg cs => (match pF (Au G ok ρ n) cs with | some cs' => some (.agg cs') | none => none)
 | n + 1, .tup cs => (match pF (Au G ok ρ n) cs with | some cs' => some (.tup cs') | none => none)
 | n, x => lf G ok n x
def zu (l : List Nat) (x : Nat) : List Nat := if l.contains x then l else l ++ [x]
def frz : RC -> AV
 | .row len _ cs => .sl true cs len
 | .av A => A
def fzC : Blk -> Option (List AV)
 | .own cs => some cs
 | .rows rs => some (rs.map frz)
 | _ => none
def dc (H : List Blk) (l : List Nat) : List (Nat × Blk) :=
 l.filterMap fun b : Nat => match (H[b]? : Option Blk) with | some (.own cs) => some (b, .fix cs) | some (.rows rs) => some (b, .fix (rs.map frz)) | _ => none
def findAt (l : List Nat) (x base : Nat) : Option Nat := match l with
 | [] => none
 | y :: ys => if y = x then some base else findAt ys x (base + 1)
def s6 (G : List Blk) (ok : Nat -> Bool) (n : Nat) : List Nat -> Option (List (List AV))
 | [] => some []
 | b :: bs => match G[b]? with
  | some (.own cs) => (match pF (lf G ok n) cs, s6 G ok n bs with | some cs', some l => some (cs' :: l) | _, _ => none)
  | _ => none
def ur (nid : Nat) : List (List AV) -> List (Nat × Blk)
 | [] => []
 | x :: xs => (nid, .own x) :: ur (nid + 1) xs
def zb : Option Blk -> Bool | some (.own _) => true | _ => false
def vy : List Nat -> Bool
 | [] => true
 | x :: xs => !xs.contains x && vy xs
def zw (n : Nat) (l : List Nat) (H G : List Blk) (r : AV) : Option qe :=
 match lJ r with
 | false => some (.loc r [] l 0)
 | true =>
  let σ := ((jh r).filter fun b => zb G[b]?).foldl zu []
  match vy σ, s6 G (fun b => !σ.contains b) n σ, Au G (fun b => !σ.contains b) (findAt σ · H.length) n r with
  | true, some new, some r' => some (.loc r' (dc H l ++ ur H.length new) l new.length)
  | _, _, _ => none
end Go.Eng


namespace Go.Eng
open Go Go.RowKit
variable [Dr]
def ik (P : Program) (f : FuncId) (args : List AV) (H : List Blk) : qe -> Prop
 | .loc v ws rd n => ∀ H' : List Blk, H.length + n <= H'.length -> (∀ b ∈ rd, b < H.length -> H'[b]? = H[b]?) -> ∀ (out : Nat -> Prop) (B : Nat -> Prop) (w : World) (Z : List (Option PB)) (vs : List Value),
   Inv out B w Z H' -> (∀ j, H.length <= j -> j < H.length + n -> ∀ q, Z[j]? ≠ some (some q)) -> RvL w (aH out Z H') Z args vs ->
   Calls P f vs.toArray w fun e w' => ∃ u Z', e = .returned u /\ Ext B w w' (aH out Z H') (aH out Z' (aO H' ws)) Z Z' /\ Inv out B w' Z' (aO H' ws) /\ Rv w' (aH out Z' (aO H' ws)) Z' v u /\
    ∀ j, (∀ b, (j, b) ∉ ws) -> Z'[j]? = Z[j]?
 | .whole v H' => ∀ (out : Nat -> Prop) (B : Nat -> Prop) (w : World) (Z : List (Option PB)) (vs : List Value), Inv out B w Z H -> RvL w (aH out Z H) Z args vs ->
   Calls P f vs.toArray w fun e w' => ∃ u Z', e = .returned u /\ Ext B w w' (aH out Z H) (aH out Z' H') Z Z' /\ Inv out B w' Z' H' /\ Rv w' (aH out Z' H') Z' v u
def gL (P : Program) (call : dN) : Prop := ∀ f args H r, call f args H = some r -> ik P f args H r
structure Rep (out : Nat -> Prop) (B : Nat -> Prop) (w : World) (Z : List (Option PB)) (st : St) (a : Act) : Prop where
 defers : a.defers = []
 slots : RvL w (aH out Z st.heap) Z st.slots a.tmps.toList
 inv : Inv out B w Z st.heap
section
variable {P : Program} {out : Nat -> Prop} {B : Nat -> Prop} {w : World} {Z : List (Option PB)}
theorem iq {mu : Nat -> Prop} {slots : List AV} {tmps : Array Value} (h : RvL w mu Z slots tmps.toList) (t : Nat) : Rv w mu Z (ox slots t) (tmps.getD t undef) := by
 rw [nf]
 cases hs : slots[t]? with
 | none => simp [List.getD, hs, Rv]
 | some A =>
  obtain ⟨v, h1, h2⟩ := RvL.get _ _ t A h hs
  have e1 : slots.getD t .unk = A := by simp [List.getD, hs]
  have e2 : tmps.getD t undef = v := by
   rw [Array.getElem?_toList] at h1
   rw [Array.getD_eq_getD_getElem?, h1]; rfl
  rw [e1, e2]; exact h2
theorem ja {mu : Nat -> Prop} {slots : List AV} {a : Act} (h : RvL w mu Z slots a.tmps.toList) : ∀ x, Rv w mu Z (evA slots x) (a.eval x)
 | .tmp t => iq h t
 | .const _ => rfl
 | .global _ => rfl
 | .func _ => ⟨#[], #[], rfl, rfl, rfl⟩
theorem jd {mu : Nat -> Prop} {ops : Array Oper} {o : Oper} {slots : List AV} {a : Act} {b : Bool} (h : RvL w mu Z slots a.tmps.toList) (hw : cE ops.toList o slots = some b) :
  Region.wanted o (yielded ops a.tmps) = b := by
 unfold cE at hw
 unfold Region.wanted
 split at hw
 · rename_i hg; cases hw; simp [hg]
 · rename_i j want hg
   split at hw
   · rename_i oj hj
     split at hw
     · rename_i d hd
       split at hw
       · rename_i c hc
         cases hw
         have hs := iq h d
         rw [hc] at hs
         have hv : a.tmps.getD d undef = .bool c := hs
         have hv' : a.tmps[d]? = some (.bool c) := by
          rw [Array.getD_eq_getD_getElem?] at hv
          cases ht : a.tmps[d]? with
          | none => rw [ht] at hv; simp [undef] at hv
          | some x => rw [ht] at hv; simpa using hv
         have hy : yielded ops a.tmps j = some c := by
          rw [Array.getElem?_toList] at hj
          simp [yielded, hj, hd, hv']
         simp [hg, hy]
       · rename_i vs hc
         cases hw
         have hs := iq h d
         rw [hc] at hs
         have hv : a.tmps.getD d undef = .tuple vs := hs
         have hy : yielded ops a.tmps j = none := by
          rw [Array.getElem?_toList] at hj
          rw [Array.getD_eq_getD_getElem?] at hv
          cases ht : a.tmps[d]? with
          | none => simp [yielded, hj, hd, ht]
          | some x => rw [ht] at hv; simp only [Option.getD_some] at hv; subst hv; simp [yielded, hj, hd, ht]
         simp [hg, hy]
       · cases hw
     · cases hw
   · cases hw
theorem po {mu : Nat -> Prop} {slots : List AV} {a : Act} {dst : Option Tmp} {A : AV} {v : Value} (h : RvL w mu Z slots a.tmps.toList) (hA : Rv w mu Z A v) : RvL w mu Z (eS slots dst A) (a.put dst v).tmps.toList := by
 cases dst with
 | none => exact h
 | some d => simp only [eS, Act.put, Array.toList_setIfInBounds]; exact RvL.set _ _ d A v h hA
theorem put_defers {a : Act} {dst : Option Tmp} {v : Value} : (a.put dst v).defers = a.defers := by cases dst <;> rfl
theorem Inv.extend {H : List Blk} (hI : Inv out B w Z H) (n : Nat) :
  Inv out B w (Z ++ List.replicate n none) (H ++ ft n) /\ Ext B w w (aH out Z H) (aH out (Z ++ List.replicate n none) (H ++ ft n)) Z (Z ++ List.replicate n none) := by
 have hl := hI.len
 have gH : ∀ {i : Nat} {x : Blk}, (H ++ ft n)[i]? = some x -> H[i]? = some x \/ (H.length <= i /\ x = .dead) := by
  intro i x h
  by_cases hi : i < H.length
  · rw [List.getElem?_append_left hi] at h; exact .inl h
  · rw [List.getElem?_append_right (by omega)] at h
    refine .inr ⟨by omega, ?_⟩
    have := List.mem_of_getElem? h
    simp [ft] at this
    exact this.2
 have gπ : ∀ {i : Nat} {p : PB}, (Z ++ List.replicate n none)[i]? = some (some p) -> Z[i]? = some (some p) := by
  intro i p h
  by_cases hi : i < Z.length
  · rwa [List.getElem?_append_left hi] at h
  · rw [List.getElem?_append_right (by omega)] at h
    have := List.mem_of_getElem? h
    simp at this
 have hE : Ext B w w (aH out Z H) (aH out (Z ++ List.replicate n none) (H ++ ft n)) Z (Z ++ List.replicate n none) := by
  refine ⟨fun _ _ => rfl, Nat.le_refl _, fun b _ hb => ⟨rfl, ?_⟩, fun i p h => ?_, rfl, rfl, rfl, fun _ => Nat.le_refl _⟩
  · rintro (ho | ⟨i, x, p, h1, h2, h3, h4⟩)
    · exact hb (.inl ho)
    · rcases gH h1 with h1' | ⟨_, rfl⟩
      · exact hb (.inr ⟨i, x, p, h1', h2, gπ h3, h4⟩)
      · simp [Blk.eh] at h2
  · rw [List.getElem?_append_left (aE h)]; exact h
 refine ⟨⟨by simp [hl, ft], hI.bound, hI.out_lt, ?_, ?_, ?_⟩, hE⟩
 · intro i x p b h1 h2 h3
   rcases gH h1 with h1' | ⟨_, rfl⟩
   · exact hI.baseO i x p b h1' (gπ h2) h3
   · exact h3.elim
 · intro i x p h1 h2
   rcases gH h1 with h1' | ⟨_, rfl⟩
   · exact cS.ext hE (fun _ _ => rfl) (hI.ok i x p h1' (gπ h2))
   · trivial
 · intro i j x y p q b hij h1 h2 h3 h4 h5 h6 h7
   rcases gH h1 with h1' | ⟨_, rfl⟩
   · rcases gH h2 with h2' | ⟨_, rfl⟩
     · exact hI.sepO i j x y p q b hij h1' h2' (gπ h3) (gπ h4) h5 h6 h7
     · exact h7.elim
   · simp [Blk.eh] at h5
theorem mO {H : List Blk} (hI : Inv out B w Z H) : ∀ q, Z[H.length]? ≠ some (some q) := by
 intro q h; have := aE h; have := hI.len; omega
theorem Rep.ext {w' : World} {Z' : List (Option PB)} {H H' : List Blk} {slots : List AV} {a : Act} (hd : a.defers = []) (hs : RvL w (aH out Z H) Z slots a.tmps.toList) (hE : Ext B w w' (aH out Z H) (aH out Z' H') Z Z') (hI : Inv out B w' Z' H')
  {dst : Option Tmp} {A : AV} {v : Value} (hA : Rv w' (aH out Z' H') Z' A v) : Rep out B w' Z' ⟨eS slots dst A, H'⟩ (a.put dst v) :=
 ⟨by rw [put_defers]; exact hd, po (RvL.ext hE _ _ hs) hA, hI⟩
theorem uA (hng : tm P) {call : dN} (hcall : gL P call) {ops : Array Oper} {o : Oper} {st st' : St} {oe : Option Ent} {a : Act} (hR : Rep out B w Z st a) (h : gP P call ops.toList o st = some (st', oe))
  {K : Act -> World -> Prop} {Q : Exit -> Act -> World -> Prop}
  (hK : ∀ a' w' Z', Rep out B w' Z' st' a' -> Ext B w w' (aH out Z st.heap) (aH out Z' st'.heap) Z Z' -> K a' w') :
  if Region.wanted o (yielded ops a.tmps) then o.wp P a w K Q \/ (o.asks P a w /\ LetsOut Q) else K (a.put o.dst undef) w := by
 unfold gP at h
 split at h
 · rename_i hw
   rw [if_pos (jd hR.slots hw)]
   refine .inl ?_
   unfold Oper.wp
   split at h
   · rename_i v hv
     rw [dz] at h
     cases h
     obtain ⟨nx, u, h1, h2, h3⟩ := gJ hng hR.inv (Nat.le_refl _) (mO hR.inv) (ja hR.slots) hv
     rw [h1]
     rcases h2 with rfl | ⟨rfl, rfl⟩
     · exact hK _ _ Z (Rep.ext hR.defers hR.slots (Ext.refl _ _ _) hR.inv h3) (Ext.refl _ _ _)
     · exact hK _ _ Z (Rep.ext hR.defers hR.slots (Ext.refl _ _ _) hR.inv h3) (Ext.refl _ _ _)
   · rename_i v ws hv
     rw [dz] at h
     cases h
     obtain ⟨nx, u, w', Z', h1, h2, h3, h4, h5, _⟩ := gJ hng hR.inv (Nat.le_refl _) (mO hR.inv) (ja hR.slots) hv
     rw [h1]
     rcases h2 with rfl | ⟨rfl, rfl⟩
     · exact hK _ _ Z' (Rep.ext hR.defers hR.slots h3 h4 h5) h3
     · exact hK _ _ Z' (Rep.ext hR.defers hR.slots h3 h4 h5) h3
   · rename_i f args hv
     obtain ⟨vs, h1, h2⟩ := gJ hng hR.inv (Nat.le_refl _) (mO hR.inv) (ja hR.slots) hv
     rw [h1]
     simp only [Oper.upon]
     split at h
     · rename_i v ws rd n hc
       rw [dz] at h
       cases h
       obtain ⟨hI1, hE1⟩ := hR.inv.extend n
       have hl := hR.inv.len
       have := hcall _ _ _ _ hc (st.heap ++ ft n) (by simp [ft]) (fun b _ hlt => by rw [List.getElem?_append_left hlt]) out B w (Z ++ List.replicate n none) vs.toList hI1 (fun j h1 _ q hq => by
             rw [List.getElem?_append_right (by omega)] at hq
             have := List.mem_of_getElem? hq
             simp at this) (RvL.ext hE1 _ _ h2)
       rw [Array.toArray_toList] at this
       refine this.mono ?_
       rintro e w'' ⟨u, Z', rfl, g1, g2, g3, _⟩
       exact hK _ _ Z' (Rep.ext hR.defers (RvL.ext hE1 _ _ hR.slots) g1 g2 g3) (hE1.trans g1)
     · rename_i v H' hc
       rw [dz] at h
       cases h
       have := hcall _ _ _ _ hc out B w Z vs.toList hR.inv h2
       rw [Array.toArray_toList] at this
       refine this.mono ?_
       rintro e w'' ⟨u, Z', rfl, g1, g2, g3⟩
       exact hK _ _ Z' (Rep.ext hR.defers hR.slots g1 g2 g3) g1
     · cases h
   · cases h
 · rename_i hw
   rw [jd hR.slots hw]
   simp only [Bool.false_eq_true, if_false]
   rw [dz] at h
   cases h
   exact hK _ _ Z (Rep.ext hR.defers hR.slots (Ext.refl _ _ _) hR.inv rfl) (Ext.refl _ _ _)
 · cases h
end
end Go.Eng

