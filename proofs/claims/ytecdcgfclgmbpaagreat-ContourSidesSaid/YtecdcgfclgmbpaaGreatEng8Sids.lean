import Derived.Test.YtecdcgfclgmbpaaGreatEng5Sids
set_option linter.all false
namespace Go.Eng
open Go Go.RowKit
variable [Dr]
theorem yi {P : Program} {ρ : Operand -> AV} {H H' : List Blk} {nid : Nat} {o : Oper} (h : ∀ b ∈ oF H ρ o, H[b]? = H'[b]?) : evalOp P ρ H nid o = evalOp P ρ H' nid o := by
 have cellAt_eq : ∀ a : AV, (∀ b ∈ c9 a, H[b]? = H'[b]?) -> cellAt H a = cellAt H' a := by
  intro a ha; cases a <;> simp only [cellAt]
  rw [ha _ (by simp [c9])]
 have cellsFrom_eq : ∀ a : AV, (∀ b ∈ c9 a, H[b]? = H'[b]?) -> me H a = me H' a := by
  intro a ha; cases a <;> simp only [me]
  rw [ha _ (by simp [c9])]
 have sliceCells_eq : ∀ (n : Nat) (a : AV), (∀ b ∈ c9 a, H[b]? = H'[b]?) -> iU H n a = iU H' n a := by
  intro n a ha
  unfold iU
  split <;> try rfl
  rw [ha _ (by simp [c9])]
 have mapAt_eq : ∀ a : AV, (∀ b ∈ c9 a, H[b]? = H'[b]?) -> jk H a = jk H' a := by
  intro a ha; cases a <;> simp only [jk]
  rw [ha _ (by simp [c9])]
 unfold evalOp
 unfold oF at h
 cases hop : o.op <;> simp only [hop, vp, qq, wS, sd, jc, sE, mv, ow, jM, rO, sT, lz] at h ⊢
 case load t a =>
  simp only [wP, cellAt_eq _ h, cellsFrom_eq _ h]
 case store t a x =>
  simp only [xz]
  cases ha : ρ a <;> simp only
  rw [h _ (by simp [ha, c9])]
 case slice t x lo hi mx =>
  cases mx with
  | some _ => rfl
  | none =>
   simp only
   have : ∀ y lo hi, (∀ b ∈ c9 y, H[b]? = H'[b]?) -> tq P H t y lo hi = tq P H' t y lo hi := by
    intro y lo hi hy
    simp only [tq]
    cases P.underlying t with
    | none => rfl
    | some d =>
     cases d <;> simp only
     cases eW P _ <;> cases y <;> simp only
     rw [hy _ (by simp [c9])]
   split
   · rfl
   · rw [this _ _ _ h]
 case makeFunc fn fs cs => cases fn <;> rfl
 case lookup t x ix ok => simp only [eN, mapAt_eq _ h]
 case mapUpdate t m k x => simp only [gu, mapAt_eq _ h]
 case insert t m k x => simp only [gu, mapAt_eq _ h]
 case mapEntry t m k => simp only [kM, mapAt_eq _ h]
 case entryStore t m k x => simp only [kf, mapAt_eq _ h]
 case range t x => simp only [l5, mapAt_eq _ h]
 case entry it =>
  have h1 : p6 H (ρ it) = p6 H' (ρ it) := by
   unfold p6
   split
   · rename_i j heq; rw [h j (by rw [heq]; simp [c9])]
   · rfl
  simp only [gD, <- h1]
  cases hi : p6 H (ρ it) with
  | none => rfl
  | some q => obtain ⟨m, n, seen⟩ := q; simp only; rw [h m (by simp [hi])]
 case call c =>
  cases hc : c.callee <;> simp only
  simp only [kS]
  split <;> try rfl
  · rename_i s x heq
    have h1 : ∀ b ∈ c9 s, H[b]? = H'[b]? := by
     intro b hb
     refine h b (List.mem_flatMap.2 ?_)
     have : s ∈ c.args.toList.map ρ := by rw [heq]; simp
     obtain ⟨y, hy, rfl⟩ := List.mem_map.1 this
     exact ⟨y, hy, hb⟩
    have h2 : ∀ b ∈ c9 x, H[b]? = H'[b]? := by
     intro b hb
     refine h b (List.mem_flatMap.2 ?_)
     have : x ∈ c.args.toList.map ρ := by rw [heq]; simp
     obtain ⟨y, hy, rfl⟩ := List.mem_map.1 this
     exact ⟨y, hy, hb⟩
    have : ∀ n by_, j8 H nid n by_ s x = j8 H' nid n by_ s x := by
     intro n by_
     simp only [j8, sliceCells_eq _ _ h2]
     split
     · rfl
     · split
       · rfl
       · rfl
       · rw [h1 _ (by simp [c9])]
       · rfl
    simp only [this]
  · rename_i s x heq
    have h1 : ∀ b ∈ c9 s, H[b]? = H'[b]? := by
     intro b hb
     refine h b (List.mem_flatMap.2 ?_)
     have : s ∈ c.args.toList.map ρ := by rw [heq]; simp
     obtain ⟨y, hy, rfl⟩ := List.mem_map.1 this
     exact ⟨y, hy, hb⟩
    have h2 : ∀ b ∈ c9 x, H[b]? = H'[b]? := by
     intro b hb
     refine h b (List.mem_flatMap.2 ?_)
     have : x ∈ c.args.toList.map ρ := by rw [heq]; simp
     obtain ⟨y, hy, rfl⟩ := List.mem_map.1 this
     exact ⟨y, hy, hb⟩
    have : ∀ n, vy H n s x = vy H' n s x := by
     intro n
     simp only [vy, sliceCells_eq _ _ h2]
     split
     · rfl
     · split
       · rw [h1 _ (by simp [c9])]
       · rfl
    simp only [this]
  · rename_i d heq
    have h1 : ∀ b ∈ c9 d, H[b]? = H'[b]? := by
     intro b hb
     refine h b (List.mem_flatMap.2 ?_)
     have : d ∈ c.args.toList.map ρ := by rw [heq]; simp
     obtain ⟨y, hy, rfl⟩ := List.mem_map.1 this
     exact ⟨y, hy, hb⟩
    have : ∀ n z, q9 H n z d = q9 H' n z d := by
     intro n z
     simp only [q9]
     split
     · rw [h1 _ (by simp [c9])]
     · rfl
    simp only [this]
theorem vf {P : Program} {ρ ρ' : Operand -> AV} {H : List Blk} {nid : Nat} {o : Oper} (h : ∀ x ∈ o.op.operands.toList, ρ x = ρ' x) : evalOp P ρ H nid o = evalOp P ρ' H nid o := by
 have hparts : ∀ (l : List (Nat × Operand)), (∀ x ∈ (l.map (·.2)), ρ x = ρ' x) -> (l.map fun p => (p.1, ρ p.2)) = l.map fun p => (p.1, ρ' p.2) := by
  intro l hl
  apply List.map_congr_left
  intro p hp
  rw [hl _ (List.mem_map_of_mem hp)]
 have hmap : ∀ (l : List Operand), (∀ x ∈ l, ρ x = ρ' x) -> l.map ρ = l.map ρ' := fun l hl => List.map_congr_left hl
 unfold evalOp
 cases hop : o.op <;> simp only [hop, Op.operands, vp, qq, wS, sd, jc, sE, mv, ow, jM, rO, sT, lz] at h ⊢
 case move x => rw [h x (by simp)]
 case «assign» x => rw [h x (by simp)]
 case pick c a b => rw [h c (by simp), h a (by simp), h b (by simp)]
 case box t x => rw [h x (by simp)]
 case build t ps => rw [hparts _ (by simpa using h)]
 case buildSlice t n ps => rw [hparts _ (by simpa using h)]
 case load t a => rw [h a (by simp)]
 case store t a x => rw [h a (by simp), h x (by simp)]
 case nilCheck x => rw [h x (by simp)]
 case binOp op t x y u => rw [h x (by simp), h y (by simp)]
 case unOp op t x => rw [h x (by simp)]
 case convert s d x => rw [h x (by simp)]
 case makeFunc fn fs cs =>
  cases fn <;> simp only
  rw [hmap fs.toList (fun x hx => h x (by simp at hx ⊢; exact .inl hx)), hmap cs.toList (fun x hx => h x (by simp at hx ⊢; exact .inr hx))]
 case makeSlice t l c => rw [h l (by simp), h c (by simp)]
 case slice t x lo hi mx =>
  cases mx with
  | some _ => rfl
  | none =>
   have e1 : ρ x = ρ' x := h x (by simp)
   have e2 : lo.map ρ = lo.map ρ' := by cases lo with | none => rfl | some y => simp [h y (by simp)]
   have e3 : hi.map ρ = hi.map ρ' := by cases hi with | none => rfl | some y => simp [h y (by simp)]
   simp only [e1, e2, e3]
   cases lo <;> cases hi <;> simp_all
 case fieldAddr s x f => rw [h x (by simp)]
 case field s x f => rw [h x (by simp)]
 case indexAddr t x ix => rw [h x (by simp), h ix (by simp)]
 case index t x ix => rw [h x (by simp), h ix (by simp)]
 case extract t ix => rw [h t (by simp)]
 case makeMap t r =>
  have e : r.map ρ = r.map ρ' := by cases r with | none => rfl | some y => simp [h y (by simp)]
  rw [e]
 case lookup t x ix ok => rw [h x (by simp), h ix (by simp)]
 case mapUpdate t m k x => rw [h m (by simp), h k (by simp), h x (by simp)]
 case insert t m k x => rw [h m (by simp), h k (by simp), h x (by simp)]
 case mapEntry t m k => rw [h m (by simp), h k (by simp)]
 case range t x => rw [h x (by simp)]
 case entry it => rw [h it (by simp)]
 case entryStore t m k x => rw [h m (by simp), h k (by simp), h x (by simp)]
 case call c =>
  have ha : c.args.toList.map ρ = c.args.toList.map ρ' := hmap _ fun x hx => h x (by simp only [Call.operands, Array.toList_append, List.mem_append]; exact .inr hx)
  cases hc : c.callee <;> simp only
  case value f =>
   have : ρ f = ρ' f := h f (by simp [Call.operands, hc])
   rw [this, ha]
  case builtin b => rw [ha]
end Go.Eng


namespace Go.Eng
open Go Go.RowKit
variable [Dr]
structure St where
 slots : List AV
 heap : List Blk
inductive uE where
 | loc (v : AV) (ws : List (Nat × Blk)) (rd : List Nat) (n : Nat)
 | whole (v : AV) (H : List Blk)
abbrev eH := FuncId -> List AV -> List Blk -> Option uE
noncomputable def tc (l : List AV) : Nat -> AV :=
 List.rec (motive := fun _ => Nat -> AV) (fun _ => .unk) (fun x _ ih n => Nat.rec (motive := fun _ => AV) x (fun m _ => ih m) n) l
theorem rU (l : List AV) : ∀ n : Nat, tc l n = l.getD n .unk := by
 induction l with
 | nil => intro n; rfl
 | cons x l ih => intro n; cases n with
  | zero => rfl
  | succ n => exact (ih n).trans (by simp)
noncomputable def FI {α : Type} (l : List AV) : Nat -> AV -> (List AV -> α) -> α :=
 List.rec (motive := fun _ => Nat -> AV -> (List AV -> α) -> α) (fun _ _ k => k []) (fun x xs ih n v k => Nat.rec (motive := fun _ => α) (k (v :: xs)) (fun m _ => ih m v (fun r => k (x :: r))) n) l
theorem DC {α : Type} (l : List AV) : ∀ (n : Nat) (v : AV) (k : List AV -> α), FI l n v k = k (l.set n v) := by
 induction l with
 | nil => intro n v k; rfl
 | cons x l ih => intro n v k; cases n with
  | zero => rfl
  | succ n => exact ih n v _
noncomputable def evA (slots : List AV) : Operand -> AV
 | .tmp t => tc slots t
 | .const v => .at v
 | .global g => .at (.pointer (some ⟨g, 0, none⟩))
 | .func f => .fn f [] []
def fL (slots : List AV) (dst : Option Tmp) (v : AV) : List AV := match dst with | some d => slots.set d v | none => slots
noncomputable def Bl {α : Type} (slots : List AV) (dst : Option Tmp) (v : AV) (k : List AV -> α) : α := match dst with | some d => FI slots d v k | none => k slots
theorem dI {α : Type} (slots : List AV) (dst : Option Tmp) (v : AV) (k : List AV -> α) : Bl slots dst v k = k (fL slots dst v) := by
 cases dst with
 | none => rfl
 | some d => exact DC slots d v k
noncomputable def cw (ops : List Oper) (o : Oper) (slots : List AV) : Option Bool :=
 match o.guard with
 | none => some true
 | some (j, want) => match ops[j]? with
  | some oj => (match oj.dst with | some d => (match tc slots d with | .at (.bool b) => some (b == want) | .at (.tuple _) => some false | _ => none) | none => none)
  | none => none
def gv (n : Nat) : List Blk := List.replicate n .dead
structure Ent where
 o : Oper
 nid : Nat
 v : AV
 ws : List (Nat × Blk)
 rd : List Nat
 n : Nat
noncomputable def jm (P : Program) (call : eH) (ops : List Oper) (o : Oper) (st : St) : Option (St × Option Ent) :=
 match cw ops o st.slots with
 | some true => (match evalOp P (evA st.slots) st.heap st.heap.length o with
  | some (.pure v) => Bl st.slots o.dst v fun s => some (⟨s, st.heap⟩, some ⟨o, st.heap.length, v, [], oF st.heap (evA st.slots) o, 0⟩)
  | some (.eff v ws) => Bl st.slots o.dst v fun s => some (⟨s, aP st.heap ws⟩, some ⟨o, st.heap.length, v, ws, oF st.heap (evA st.slots) o, 0⟩)
  | some (.call f args) => (match call f args st.heap with
   | some (.loc v ws rd n) => Bl st.slots o.dst v fun s => some (⟨s, aP (st.heap ++ gv n) ws⟩, some ⟨o, st.heap.length, v, ws, rd, n⟩)
   | some (.whole v H) => Bl st.slots o.dst v fun s => some (⟨s, H⟩, none)
   | none => none)
  | none => none)
 | some false => Bl st.slots o.dst (.at undef) fun s => some (⟨s, st.heap⟩, some ⟨o, st.heap.length, .at undef, [], [], 0⟩)
 | none => none
noncomputable def ga (P : Program) (call : eH) (ops : List Oper) : List Oper -> St -> Option St
 | [], st => some st
 | o :: rest, st => match jm P call ops o st with
  | some (st', _) => ga P call ops rest st'
  | none => none
def lS (len : Nat) (e : Ent) : Bool :=
 (e.rd.all fun b => decide (b < len)) &&
 match e.n with
 | 0 => e.ws.all fun p => decide (p.1 <= len)
 | n + 1 => (e.ws.all fun p => decide (p.1 < len + (n + 1))) && (List.range (n + 1)).all fun j => (e.ws.map (·.1)).contains (len + j)
noncomputable def fb (P : Program) (call : eH) (ops : List Oper) : List Oper -> St -> Option (St × List Ent)
 | [], st => some (st, [])
 | o :: rest, st => match jm P call ops o st with
  | some (st', some e) => (match lS st.heap.length e, fb P call ops rest st' with | true, some (st'', es) => some (st'', e :: es) | _, _ => none)
  | _ => none
def ze (l : List Operand) : List Tmp := l.filterMap fun | .tmp t => some t | _ => none
def dx (ops : List Oper) (o : Oper) : List Tmp :=
 ze o.op.operands.toList ++ (match o.guard with | some (j, _) => (match ops[j]? with | some oj => oj.dst.toList | none => []) | none => [])
def uq (acc : List Nat) (o : Oper) : Nat := o.after.toList.foldl (fun s e => if Region.binds .any e then s ||| (2 ^ e.on ||| acc.getD e.on 0) else s) 0
def re : List Nat -> List Oper -> List Nat
 | acc, [] => acc
 | acc, o :: rest => re (acc ++ [uq acc o]) rest
def rD (l k : List Nat) : Bool := l.all fun x => !k.contains x
def y8 (ops : List Oper) (a b : Ent) : Bool :=
 let wa := a.o.dst.toList
 let wb := b.o.dst.toList
 rD wa (dx ops b.o) && rD wa wb && rD wb (dx ops a.o) &&
 rD (a.ws.map (·.1)) b.rd && rD (a.ws.map (·.1)) (b.ws.map (·.1)) && rD (b.ws.map (·.1)) a.rd
def qP (ops : List Oper) (a b : Ent) (mid : List Ent) : Bool :=
 match a.o.op, b.o.op with
 | .lookup t (.tmp m) (.tmp k) false, .mapEntry t' (.tmp m') (.tmp k') =>
  Nat.beq t t' && Nat.beq m m' && Nat.beq k k' && a.o.guard.isNone && b.o.guard.isNone && a.ws.isEmpty && rD a.o.dst.toList (dx ops b.o) && rD a.o.dst.toList b.o.dst.toList && rD b.o.dst.toList (dx ops a.o) &&
  mid.all fun c => rD (c.ws.map (·.1)) a.rd && !c.o.dst.toList.contains m && !c.o.dst.toList.contains k
 | _, _ => false
def pP (ops : List Oper) (b : Ent) (m : Nat) : List Ent -> Nat -> Bool
 | [], _ => true
 | a :: es, i => (m.testBit i || y8 ops a b || qP ops a b es) && (a.ws.all fun p => decide (p.1 < b.nid)) && pP ops b m es (i + 1)
def m7 (ops : List Oper) (bef : List Nat) (all : List Ent) : List Ent -> Nat -> Bool
 | [], _ => true
 | b :: es, j => pP ops b (bef.getD j 0) (all.take j) 0 && m7 ops bef all es (j + 1)
def o8 : List Oper -> Nat -> Bool
 | [], _ => true
 | o :: rest, i => o.after.toList.all (fun e => !Region.binds .any e || decide (e.on < i)) && o8 rest (i + 1)
noncomputable def iY (P : Program) (call : eH) (ops : List Oper) (draw : Bool) (st : St) : Option St :=
 match draw with
 | false => ga P call ops ops st
 | true => match fb P call ops ops st with
  | some (st', es) => (match o8 ops 0 && m7 ops (re [] ops) es es 0 with | true => some st' | false => none)
  | none => none
inductive X where
 | normal
 | exit (id : Nat)
 | ret
def iter (f : St -> Option (X × St)) : Nat -> St -> Option (X × St)
 | 0, _ => none
 | n + 1, st => match f st with
  | some (.normal, st') => iter f n st'
  | r => r
noncomputable def evalCode (P : Program) (call : eH) (n : Nat) : Code -> St -> Option (X × St)
 | .skip, st => some (.normal, st)
 | .label _, st => some (.normal, st)
 | .region _ ops draw, st => (match iY P call ops.toList draw st with | some st' => some (.normal, st') | none => none)
 | .seq a b, st => (match evalCode P call n a st with | some (.normal, st') => evalCode P call n b st' | r => r)
 | .cond c a b, st => (match evA st.slots c with | .at (.bool true) => evalCode P call n a st | .at (.bool false) => evalCode P call n b st | _ => none)
 | .block id c, st => (match evalCode P call n c st with | some (.exit id', st') => (match decide (id' = id) with | true => some (.normal, st') | false => some (.exit id', st')) | r => r)
 | .loop c, st => iter (evalCode P call n c) n st
 | .exit id, st => some (.exit id, st)
 | .ret, st => some (.ret, st)
 | _, _ => none
noncomputable def uv (P : Program) (st : St) : ResultVar -> Option AV
 | .tmp t => some (tc st.slots t)
 | .cell a t => wP P st.heap t (tc st.slots a)
noncomputable def dM (P : Program) (st : St) : List ResultVar -> Option (List AV)
 | [] => some []
 | r :: rs => match uv P st r, dM P st rs with | some v, some vs => some (v :: vs) | _, _ => none
def iE : List AV -> AV | [v] => v | vs => .tup vs
def rN (n : Nat) : List AV := List.replicate n .unk
def tx {α β : Type} (f : α -> Option β) : List α -> Option (List β)
 | [] => some []
 | x :: xs => match f x, tx f xs with | some y, some ys => some (y :: ys) | _, _ => none
def oB (H : List Blk) (ok : Nat -> Bool) : Nat -> AV -> Option AV
 | _, .unk => some .unk
 | _, .at v => some (.at v)
 | _, .sl nl cs len => some (.sl nl cs len)
 | _, .pp cs off => some (.pp cs off)
 | 0, _ => none
 | n + 1, .hs b off len es => (match ok b, iU H es (.hs b off len es) with
  | true, some (cs, m) => (match tx (oB H ok n) cs with | some cs' => some (.sl true cs' m) | none => none)
  | _, _ => none)
 | n + 1, .hp b off => (match ok b, H[b]? with
  | true, some (.own cs) => (match tx (oB H ok n) cs with | some cs' => some (.pp cs' off) | none => none)
  | true, some (.fix cs) => (match tx (oB H ok n) cs with | some cs' => some (.pp cs' off) | none => none)
  | _, _ => none)
 | _ + 1, .mp _ => none
 | n + 1, .agg cs => (match tx (oB H ok n) cs with | some cs' => some (.agg cs') | none => none)
 | n + 1, .tup cs => (match tx (oB H ok n) cs with | some cs' => some (.tup cs') | none => none)
 | n + 1, .fn f fs cs => (match tx (oB H ok n) fs, tx (oB H ok n) cs with | some fs', some cs' => some (.fn f fs' cs') | _, _ => none)
mutual
def oS : AV -> Bool
 | .unk | .at _ => false
 | .agg cs => pf cs
 | .tup cs => pf cs
 | .fn _ fs cs => pf fs || pf cs
 | _ => true
def pf : List AV -> Bool
 | [] => false
 | c :: cs => oS c || pf cs
end
mutual
def nR : AV -> List Nat
 | .hs b _ _ _ => [b]
 | .hp b _ => [b]
 | .mp b => [b]
 | .agg cs => cE cs
 | .tup cs => cE cs
 | .fn _ fs cs => cE fs ++ cE cs
 | _ => []
def cE : List AV -> List Nat
 | [] => []
 | c :: cs => nR c ++ cE cs
end
def DJ (G : List Blk) (ok : Nat -> Bool) (ρ : Nat -> Option Nat) : Nat -> AV -> Option AV
 | n, .hs b off len es => (match ρ b with | some c => some (.hs c off len es) | none => oB G ok n (.hs b off len es))
 | n, .hp b off => (match ρ b with | some c => some (.hp c off) | none => oB G ok n (.hp b off))
 | n + 1, .agg cs => (match tx (DJ G ok ρ n) cs with | some cs' => some (.agg cs') | none => none)
 | n + 1, .tup cs => (match tx (DJ G ok ρ n) cs with | some cs' => some (.tup cs') | none => none)
 | n, x => oB G ok n x
def Df (l : List Nat) (x : Nat) : List Nat := if l.contains x then l else l ++ [x]
def df (H : List Blk) (l : List Nat) : List (Nat × Blk) :=
 l.filterMap fun b : Nat => match (H[b]? : Option Blk) with | some (.own cs) => some (b, .fix cs) | _ => none
def findAt (l : List Nat) (x base : Nat) : Option Nat := match l with
 | [] => none
 | y :: ys => if y = x then some base else findAt ys x (base + 1)
def xd (G : List Blk) (ok : Nat -> Bool) (n : Nat) : List Nat -> Option (List (List AV))
 | [] => some []
 | b :: bs => match G[b]? with
  | some (.own cs) => (match tx (oB G ok n) cs, xd G ok n bs with | some cs', some l => some (cs' :: l) | _, _ => none)
  | _ => none
def ya (nid : Nat) : List (List AV) -> List (Nat × Blk)
 | [] => []
 | x :: xs => (nid, .own x) :: ya (nid + 1) xs
def BR : Option Blk -> Bool | some (.own _) => true | _ => false
def zN : List Nat -> Bool
 | [] => true
 | x :: xs => !xs.contains x && zN xs
def BQ (n : Nat) (l : List Nat) (H G : List Blk) (r : AV) : Option uE :=
 match oS r with
 | false => some (.loc r [] l 0)
 | true =>
  let σ := ((nR r).filter fun b => BR G[b]?).foldl Df []
  match zN σ, xd G (fun b => !σ.contains b) n σ, DJ G (fun b => !σ.contains b) (findAt σ · H.length) n r with
  | true, some new, some r' => some (.loc r' (df H l ++ ya H.length new) l new.length)
  | _, _, _ => none
end Go.Eng


namespace Go.Eng
open Go Go.RowKit
variable [Dr]
def iN (P : Program) (f : FuncId) (args : List AV) (H : List Blk) : uE -> Prop
 | .loc v ws rd n => ∀ H' : List Blk, H.length + n <= H'.length -> (∀ b ∈ rd, b < H.length -> H'[b]? = H[b]?) -> ∀ (out : Nat -> Prop) (B : Nat -> Prop) (w : World) (Z : List (Option PB)) (vs : List Value),
   Inv out B w Z H' -> (∀ j, H.length <= j -> j < H.length + n -> ∀ q, Z[j]? ≠ some (some q)) -> RvL w (aM out Z H') Z args vs ->
   Calls P f vs.toArray w fun e w' => ∃ u Z', e = .returned u /\ Ext B w w' (aM out Z H') (aM out Z' (aP H' ws)) Z Z' /\ Inv out B w' Z' (aP H' ws) /\ Rv w' (aM out Z' (aP H' ws)) Z' v u /\
    ∀ j, (∀ b, (j, b) ∉ ws) -> Z'[j]? = Z[j]?
 | .whole v H' => ∀ (out : Nat -> Prop) (B : Nat -> Prop) (w : World) (Z : List (Option PB)) (vs : List Value), Inv out B w Z H -> RvL w (aM out Z H) Z args vs ->
   Calls P f vs.toArray w fun e w' => ∃ u Z', e = .returned u /\ Ext B w w' (aM out Z H) (aM out Z' H') Z Z' /\ Inv out B w' Z' H' /\ Rv w' (aM out Z' H') Z' v u
def jh (P : Program) (call : eH) : Prop := ∀ f args H r, call f args H = some r -> iN P f args H r
structure Rep (out : Nat -> Prop) (B : Nat -> Prop) (w : World) (Z : List (Option PB)) (st : St) (a : Act) : Prop where
 defers : a.defers = []
 slots : RvL w (aM out Z st.heap) Z st.slots a.tmps.toList
 inv : Inv out B w Z st.heap
section
variable {P : Program} {out : Nat -> Prop} {B : Nat -> Prop} {w : World} {Z : List (Option PB)}
theorem jE {mu : Nat -> Prop} {slots : List AV} {tmps : Array Value} (h : RvL w mu Z slots tmps.toList) (t : Nat) : Rv w mu Z (tc slots t) (tmps.getD t undef) := by
 rw [rU]
 cases hs : slots[t]? with
 | none => simp [List.getD, hs, Rv]
 | some A =>
  obtain ⟨v, h1, h2⟩ := RvL.get _ _ t A h hs
  have e1 : slots.getD t .unk = A := by simp [List.getD, hs]
  have e2 : tmps.getD t undef = v := by
   rw [Array.getElem?_toList] at h1
   rw [Array.getD_eq_getD_getElem?, h1]; rfl
  rw [e1, e2]; exact h2
theorem kE {mu : Nat -> Prop} {slots : List AV} {a : Act} (h : RvL w mu Z slots a.tmps.toList) : ∀ x, Rv w mu Z (evA slots x) (a.eval x)
 | .tmp t => jE h t
 | .const _ => rfl
 | .global _ => rfl
 | .func _ => ⟨#[], #[], rfl, rfl, rfl⟩
theorem kN {mu : Nat -> Prop} {ops : Array Oper} {o : Oper} {slots : List AV} {a : Act} {b : Bool} (h : RvL w mu Z slots a.tmps.toList) (hw : cw ops.toList o slots = some b) :
  Region.wanted o (yielded ops a.tmps) = b := by
 unfold cw at hw
 unfold Region.wanted
 split at hw
 · rename_i hg; cases hw; simp [hg]
 · rename_i j want hg
   split at hw
   · rename_i oj hj
     split at hw
     · rename_i d hd
       split at hw
       · rename_i c hc
         cases hw
         have hs := jE h d
         rw [hc] at hs
         have hv : a.tmps.getD d undef = .bool c := hs
         have hv' : a.tmps[d]? = some (.bool c) := by
          rw [Array.getD_eq_getD_getElem?] at hv
          cases ht : a.tmps[d]? with
          | none => rw [ht] at hv; simp [undef] at hv
          | some x => rw [ht] at hv; simpa using hv
         have hy : yielded ops a.tmps j = some c := by
          rw [Array.getElem?_toList] at hj
          simp [yielded, hj, hd, hv']
         simp [hg, hy]
       · rename_i vs hc
         cases hw
         have hs := jE h d
         rw [hc] at hs
         have hv : a.tmps.getD d undef = .tuple vs := hs
         have hy : yielded ops a.tmps j = none := by
          rw [Array.getElem?_toList] at hj
          rw [Array.getD_eq_getD_getElem?] at hv
          cases ht : a.tmps[d]? with
          | none => simp [yielded, hj, hd, ht]
          | some x => rw [ht] at hv; simp only [Option.getD_some] at hv; subst hv; simp [yielded, hj, hd, ht]
         simp [hg, hy]
       · cases hw
     · cases hw
   · cases hw
theorem tf {mu : Nat -> Prop} {slots : List AV} {a : Act} {dst : Option Tmp} {A : AV} {v : Value} (h : RvL w mu Z slots a.tmps.toList) (hA : Rv w mu Z A v) : RvL w mu Z (fL slots dst A) (a.put dst v).tmps.toList := by
 cases dst with
 | none => exact h
 | some d => simp only [fL, Act.put, Array.toList_setIfInBounds]; exact RvL.set _ _ d A v h hA
theorem put_defers {a : Act} {dst : Option Tmp} {v : Value} : (a.put dst v).defers = a.defers := by cases dst <;> rfl
theorem Inv.extend {H : List Blk} (hI : Inv out B w Z H) (n : Nat) :
  Inv out B w (Z ++ List.replicate n none) (H ++ gv n) /\ Ext B w w (aM out Z H) (aM out (Z ++ List.replicate n none) (H ++ gv n)) Z (Z ++ List.replicate n none) := by
 have hl := hI.len
 have gH : ∀ {i : Nat} {x : Blk}, (H ++ gv n)[i]? = some x -> H[i]? = some x \/ (H.length <= i /\ x = .dead) := by
  intro i x h
  by_cases hi : i < H.length
  · rw [List.getElem?_append_left hi] at h; exact .inl h
  · rw [List.getElem?_append_right (by omega)] at h
    refine .inr ⟨by omega, ?_⟩
    have := List.mem_of_getElem? h
    simp [gv] at this
    exact this.2
 have gπ : ∀ {i : Nat} {p : PB}, (Z ++ List.replicate n none)[i]? = some (some p) -> Z[i]? = some (some p) := by
  intro i p h
  by_cases hi : i < Z.length
  · rwa [List.getElem?_append_left hi] at h
  · rw [List.getElem?_append_right (by omega)] at h
    have := List.mem_of_getElem? h
    simp at this
 have hE : Ext B w w (aM out Z H) (aM out (Z ++ List.replicate n none) (H ++ gv n)) Z (Z ++ List.replicate n none) := by
  refine ⟨fun _ _ => rfl, Nat.le_refl _, fun b _ hb => ⟨rfl, ?_⟩, fun i p h => ?_, rfl, rfl, rfl, fun _ => Nat.le_refl _⟩
  · rintro (ho | ⟨i, x, p, h1, h2, h3, h4⟩)
    · exact hb (.inl ho)
    · rcases gH h1 with h1' | ⟨_, rfl⟩
      · exact hb (.inr ⟨i, x, p, h1', h2, gπ h3, h4⟩)
      · simp [Blk.gV] at h2
  · rw [List.getElem?_append_left (aQ h)]; exact h
 refine ⟨⟨by simp [hl, gv], hI.bound, hI.out_lt, ?_, ?_, ?_⟩, hE⟩
 · intro i x p h1 h2 h3
   rcases gH h1 with h1' | ⟨_, rfl⟩
   · exact hI.base i x p h1' (gπ h2) h3
   · simp [Blk.isLive] at h3
 · intro i x p h1 h2
   rcases gH h1 with h1' | ⟨_, rfl⟩
   · exact gy.ext hE (fun _ => rfl) (hI.ok i x p h1' (gπ h2))
   · trivial
 · intro i j x y p q hij h1 h2 h3 h4 h5 h6
   rcases gH h1 with h1' | ⟨_, rfl⟩
   · rcases gH h2 with h2' | ⟨_, rfl⟩
     · exact hI.sep i j x y p q hij h1' h2' (gπ h3) (gπ h4) h5 h6
     · simp [Blk.isLive] at h6
   · simp [Blk.gV] at h5
theorem qH {H : List Blk} (hI : Inv out B w Z H) : ∀ q, Z[H.length]? ≠ some (some q) := by
 intro q h; have := aQ h; have := hI.len; omega
theorem Rep.ext {w' : World} {Z' : List (Option PB)} {H H' : List Blk} {slots : List AV} {a : Act} (hd : a.defers = []) (hs : RvL w (aM out Z H) Z slots a.tmps.toList) (hE : Ext B w w' (aM out Z H) (aM out Z' H') Z Z') (hI : Inv out B w' Z' H')
  {dst : Option Tmp} {A : AV} {v : Value} (hA : Rv w' (aM out Z' H') Z' A v) : Rep out B w' Z' ⟨fL slots dst A, H'⟩ (a.put dst v) :=
 ⟨by rw [put_defers]; exact hd, tf (RvL.ext hE _ _ hs) hA, hI⟩
theorem yM (hng : xt P) {call : eH} (hcall : jh P call) {ops : Array Oper} {o : Oper} {st st' : St} {oe : Option Ent} {a : Act} (hR : Rep out B w Z st a) (h : jm P call ops.toList o st = some (st', oe))
  {K : Act -> World -> Prop} {Q : Exit -> Act -> World -> Prop}
  (hK : ∀ a' w' Z', Rep out B w' Z' st' a' -> Ext B w w' (aM out Z st.heap) (aM out Z' st'.heap) Z Z' -> K a' w') :
  if Region.wanted o (yielded ops a.tmps) then o.wp P a w K Q \/ (o.asks P a w /\ LetsOut Q) else K (a.put o.dst undef) w := by
 unfold jm at h
 split at h
 · rename_i hw
   rw [if_pos (kN hR.slots hw)]
   refine .inl ?_
   unfold Oper.wp
   split at h
   · rename_i v hv
     rw [dI] at h
     cases h
     obtain ⟨nx, u, h1, h2, h3⟩ := jf hng hR.inv (Nat.le_refl _) (qH hR.inv) (kE hR.slots) hv
     rw [h1]
     rcases h2 with rfl | ⟨rfl, rfl⟩
     · exact hK _ _ Z (Rep.ext hR.defers hR.slots (Ext.refl _ _ _) hR.inv h3) (Ext.refl _ _ _)
     · exact hK _ _ Z (Rep.ext hR.defers hR.slots (Ext.refl _ _ _) hR.inv h3) (Ext.refl _ _ _)
   · rename_i v ws hv
     rw [dI] at h
     cases h
     obtain ⟨nx, u, w', Z', h1, h2, h3, h4, h5, _⟩ := jf hng hR.inv (Nat.le_refl _) (qH hR.inv) (kE hR.slots) hv
     rw [h1]
     rcases h2 with rfl | ⟨rfl, rfl⟩
     · exact hK _ _ Z' (Rep.ext hR.defers hR.slots h3 h4 h5) h3
     · exact hK _ _ Z' (Rep.ext hR.defers hR.slots h3 h4 h5) h3
   · rename_i f args hv
     obtain ⟨vs, h1, h2⟩ := jf hng hR.inv (Nat.le_refl _) (qH hR.inv) (kE hR.slots) hv
     rw [h1]
     simp only [Oper.upon]
     split at h
     · rename_i v ws rd n hc
       rw [dI] at h
       cases h
       obtain ⟨hI1, hE1⟩ := hR.inv.extend n
       have hl := hR.inv.len
       have := hcall _ _ _ _ hc (st.heap ++ gv n) (by simp [gv]) (fun b _ hlt => by rw [List.getElem?_append_left hlt]) out B w (Z ++ List.replicate n none) vs.toList hI1 (fun j h1 _ q hq => by
             rw [List.getElem?_append_right (by omega)] at hq
             have := List.mem_of_getElem? hq
             simp at this) (RvL.ext hE1 _ _ h2)
       rw [Array.toArray_toList] at this
       refine this.mono ?_
       rintro e w'' ⟨u, Z', rfl, g1, g2, g3, _⟩
       exact hK _ _ Z' (Rep.ext hR.defers (RvL.ext hE1 _ _ hR.slots) g1 g2 g3) (hE1.trans g1)
     · rename_i v H' hc
       rw [dI] at h
       cases h
       have := hcall _ _ _ _ hc out B w Z vs.toList hR.inv h2
       rw [Array.toArray_toList] at this
       refine this.mono ?_
       rintro e w'' ⟨u, Z', rfl, g1, g2, g3⟩
       exact hK _ _ Z' (Rep.ext hR.defers hR.slots g1 g2 g3) g1
     · cases h
   · cases h
 · rename_i hw
   rw [kN hR.slots hw]
   simp only [Bool.false_eq_true, if_false]
   rw [dI] at h
   cases h
   exact hK _ _ Z (Rep.ext hR.defers hR.slots (Ext.refl _ _ _) hR.inv rfl) (Ext.refl _ _ _)
 · cases h
end
end Go.Eng

