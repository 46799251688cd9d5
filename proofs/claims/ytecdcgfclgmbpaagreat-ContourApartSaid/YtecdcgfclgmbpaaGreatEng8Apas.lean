import Derived.Test.YtecdcgfclgmbpaaGreatEng5Apas
set_option linter.all false
namespace Go.Eng
open Go Go.RowKit
variable [Dr]
theorem zZ {P : Program} {ρ : Operand -> AV} {H H' : List Blk} {nid : Nat} {o : Oper} (h : ∀ b ∈ oO H ρ o, H[b]? = H'[b]?) : evalOp P ρ H nid o = evalOp P ρ H' nid o := by
 have I : ∀ a : AV, (∀ b ∈ dG a, H[b]? = H'[b]?) -> cellAt H a = cellAt H' a := by
  intro a ha; cases a <;> simp only [cellAt]
  rw [ha _ (by simp [dG])]
 have E : ∀ a : AV, (∀ b ∈ dG a, H[b]? = H'[b]?) -> mF H a = mF H' a := by
  intro a ha; cases a <;> simp only [mF]
  rw [ha _ (by simp [dG])]
 have D : ∀ (n : Nat) (a : AV), (∀ b ∈ dG a, H[b]? = H'[b]?) -> gw H n a = gw H' n a := by
  intro n a ha
  unfold gw
  split <;> try rfl
  rw [ha _ (by simp [dG])]
 have C : ∀ a : AV, (∀ b ∈ dG a, H[b]? = H'[b]?) -> jk H a = jk H' a := by
  intro a ha; cases a <;> simp only [jk]
  rw [ha _ (by simp [dG])]
 unfold evalOp
 unfold oO at h
 cases N : o.op <;> simp only [N, vO, qJ, xh, sC, jf, tb, nk, og, jM, sB, tp, lE] at h ⊢
 case load t a =>
  simp only [xb, I _ h, E _ h]
 case store t a x =>
  simp only [yx]
  cases ha : ρ a <;> simp only
  rw [h _ (by simp [ha, dG])]
 case slice t x M hi mx =>
  cases mx with
  | some _ => rfl
  | none =>
   simp only
   have : ∀ y M hi, (∀ b ∈ dG y, H[b]? = H'[b]?) -> uf P H t y M hi = uf P H' t y M hi := by
    intro y M hi J
    simp only [uf]
    cases P.underlying t with
    | none => rfl
    | some d =>
     cases d <;> simp only
     cases eZ P _ <;> cases y <;> simp only
     rw [J _ (by simp [dG])]
   split
   · rfl
   · rw [this _ _ _ h]
 case makeFunc fn O cs => cases fn <;> rfl
 case lookup t x T ok => simp only [eN, C _ h]
 case mapUpdate t m k x => simp only [gO, C _ h]
 case insert t m k x => simp only [gO, C _ h]
 case mapEntry t m k => simp only [lB, C _ h]
 case entryStore t m k x => simp only [km, C _ h]
 case range t x => simp only [my, C _ h]
 case entry it =>
  have h1 : qa H (ρ it) = qa H' (ρ it) := by
   unfold qa
   split
   · rename_i j heq; rw [h j (by rw [heq]; simp [dG])]
   · rfl
  simp only [hU, <- h1]
  cases hi : qa H (ρ it) with
  | none => rfl
  | some q => obtain ⟨m, n, seen⟩ := q; simp only; rw [h m (by simp [hi])]
 case call c =>
  cases hc : c.callee <;> simp only
  simp only [lC]
  split <;> try rfl
  · rename_i s x heq
    have h1 : ∀ b ∈ dG s, H[b]? = H'[b]? := by
     intro b hb
     refine h b (List.mem_flatMap.2 ?_)
     have : s ∈ c.args.toList.map ρ := by rw [heq]; simp
     obtain ⟨y, J, rfl⟩ := List.mem_map.1 this
     exact ⟨y, J, hb⟩
    have h2 : ∀ b ∈ dG x, H[b]? = H'[b]? := by
     intro b hb
     refine h b (List.mem_flatMap.2 ?_)
     have : x ∈ c.args.toList.map ρ := by rw [heq]; simp
     obtain ⟨y, J, rfl⟩ := List.mem_map.1 this
     exact ⟨y, J, hb⟩
    have : ∀ n by_, ki H nid n by_ s x = ki H' nid n by_ s x := by
     intro n by_
     simp only [ki, D _ _ h2]
     split
     · rfl
     · split
       · rfl
       · rfl
       · rw [h1 _ (by simp [dG])]
       · rfl
    simp only [this]
  · rename_i s x heq
    have h1 : ∀ b ∈ dG s, H[b]? = H'[b]? := by
     intro b hb
     refine h b (List.mem_flatMap.2 ?_)
     have : s ∈ c.args.toList.map ρ := by rw [heq]; simp
     obtain ⟨y, J, rfl⟩ := List.mem_map.1 this
     exact ⟨y, J, hb⟩
    have h2 : ∀ b ∈ dG x, H[b]? = H'[b]? := by
     intro b hb
     refine h b (List.mem_flatMap.2 ?_)
     have : x ∈ c.args.toList.map ρ := by rw [heq]; simp
     obtain ⟨y, J, rfl⟩ := List.mem_map.1 this
     exact ⟨y, J, hb⟩
    have : ∀ n, vR H n s x = vR H' n s x := by
     intro n
     simp only [vR, D _ _ h2]
     split
     · rfl
     · split
       · rw [h1 _ (by simp [dG])]
       · rfl
    simp only [this]
  · rename_i d heq
    have h1 : ∀ b ∈ dG d, H[b]? = H'[b]? := by
     intro b hb
     refine h b (List.mem_flatMap.2 ?_)
     have : d ∈ c.args.toList.map ρ := by rw [heq]; simp
     obtain ⟨y, J, rfl⟩ := List.mem_map.1 this
     exact ⟨y, J, hb⟩
    have : ∀ n z, rW H n z d = rW H' n z d := by
     intro n z
     simp only [rW]
     split
     · rw [h1 _ (by simp [dG])]
     · rfl
    simp only [this]
theorem wo {P : Program} {ρ ρ' : Operand -> AV} {H : List Blk} {nid : Nat} {o : Oper} (h : ∀ x ∈ o.op.operands.toList, ρ x = ρ' x) : evalOp P ρ H nid o = evalOp P ρ' H nid o := by
 have j : ∀ (l : List (Nat × Operand)), (∀ x ∈ (l.map (·.2)), ρ x = ρ' x) -> (l.map fun p => (p.1, ρ p.2)) = l.map fun p => (p.1, ρ' p.2) := by
  intro l D
  apply List.map_congr_left
  intro p hp
  rw [D _ (List.mem_map_of_mem hp)]
 have q : ∀ (l : List Operand), (∀ x ∈ l, ρ x = ρ' x) -> l.map ρ = l.map ρ' := fun l D => List.map_congr_left D
 unfold evalOp
 cases E : o.op <;> simp only [E, Op.operands, vO, qJ, xh, sC, jf, tb, nk, og, jM, sB, tp, lE] at h ⊢
 case move x => rw [h x (by simp)]
 case «assign» x => rw [h x (by simp)]
 case pick c a b => rw [h c (by simp), h a (by simp), h b (by simp)]
 case box t x => rw [h x (by simp)]
 case build t ps => rw [j _ (by simpa using h)]
 case buildSlice t n ps => rw [j _ (by simpa using h)]
 case load t a => rw [h a (by simp)]
 case store t a x => rw [h a (by simp), h x (by simp)]
 case nilCheck x => rw [h x (by simp)]
 case binOp op t x y u => rw [h x (by simp), h y (by simp)]
 case unOp op t x => rw [h x (by simp)]
 case convert s d x => rw [h x (by simp)]
 case makeFunc fn I cs =>
  cases fn <;> simp only
  rw [q I.toList (fun x hx => h x (by simp at hx ⊢; exact .inl hx)), q cs.toList (fun x hx => h x (by simp at hx ⊢; exact .inr hx))]
 case makeSlice t l c => rw [h l (by simp), h c (by simp)]
 case slice t x C hi mx =>
  cases mx with
  | some _ => rfl
  | none =>
   have e1 : ρ x = ρ' x := h x (by simp)
   have e2 : C.map ρ = C.map ρ' := by cases C with | none => rfl | some y => simp [h y (by simp)]
   have J : hi.map ρ = hi.map ρ' := by cases hi with | none => rfl | some y => simp [h y (by simp)]
   simp only [e1, e2, J]
   cases C <;> cases hi <;> simp_all
 case fieldAddr s x f => rw [h x (by simp)]
 case field s x f => rw [h x (by simp)]
 case indexAddr t x z => rw [h x (by simp), h z (by simp)]
 case index t x z => rw [h x (by simp), h z (by simp)]
 case extract t z => rw [h t (by simp)]
 case makeMap t r =>
  have e : r.map ρ = r.map ρ' := by cases r with | none => rfl | some y => simp [h y (by simp)]
  rw [e]
 case lookup t x z ok => rw [h x (by simp), h z (by simp)]
 case mapUpdate t m k x => rw [h m (by simp), h k (by simp), h x (by simp)]
 case insert t m k x => rw [h m (by simp), h k (by simp), h x (by simp)]
 case mapEntry t m k => rw [h m (by simp), h k (by simp)]
 case range t x => rw [h x (by simp)]
 case entry it => rw [h it (by simp)]
 case entryStore t m k x => rw [h m (by simp), h k (by simp), h x (by simp)]
 case call c =>
  have ha : c.args.toList.map ρ = c.args.toList.map ρ' := q _ fun x hx => h x (by simp only [Call.operands, Array.toList_append, List.mem_append]; exact .inr hx)
  cases hc : c.callee <;> simp only
  case value f =>
   have : ρ f = ρ' f := h f (by simp [Call.operands, hc])
   rw [this, ha]
  case builtin b => rw [ha]
end Go.Eng


namespace Go.Eng
open Go Go.RowKit
variable [Dr]
structure St where
 slots : List AV
 heap : List Blk
inductive tk where
 | loc (v : AV) (ws : List (Nat × Blk)) (rd : List Nat) (n : Nat)
 | whole (v : AV) (H : List Blk)
abbrev dz := FuncId -> List AV -> List Blk -> Option tk
noncomputable def tA (l : List AV) : Nat -> AV :=
 List.rec (motive := fun _ => Nat -> AV) (fun _ => .unk) (fun x _ j n => Nat.rec (motive := fun _ => AV) x (fun m _ => j m) n) l
theorem th (l : List AV) : ∀ n : Nat, tA l n = l.getD n .unk := by
 induction l with
 | nil => intro n; rfl
 | cons x l j => intro n; cases n with
  | zero => rfl
  | succ n => exact (j n).trans (by simp)
noncomputable def G6 {α : Type} (l : List AV) : Nat -> AV -> (List AV -> α) -> α :=
 List.rec (motive := fun _ => Nat -> AV -> (List AV -> α) -> α) (fun _ _ k => k []) (fun x xs j n v k => Nat.rec (motive := fun _ => α) (k (v :: xs)) (fun m _ => j m v (fun r => k (x :: r))) n) l
theorem EP {α : Type} (l : List AV) : ∀ (n : Nat) (v : AV) (k : List AV -> α), G6 l n v k = k (l.set n v) := by
 induction l with
 | nil => intro n v k; rfl
 | cons x l j => intro n v k; cases n with
  | zero => rfl
  | succ n => exact j n v _
noncomputable def evA (slots : List AV) : Operand -> AV
 | .tmp t => tA slots t
 | .const v => .at v
 | .global g => .at (.pointer (some ⟨g, 0, none⟩))
 | .func f => .fn f [] []
def fS (slots : List AV) (dst : Option Tmp) (v : AV) : List AV := match dst with | some d => slots.set d v | none => slots
noncomputable def CI {α : Type} (slots : List AV) (dst : Option Tmp) (v : AV) (k : List AV -> α) : α := match dst with | some d => G6 slots d v k | none => k slots
theorem dY {α : Type} (slots : List AV) (dst : Option Tmp) (v : AV) (k : List AV -> α) : CI slots dst v k = k (fS slots dst v) := by
 cases dst with
 | none => rfl
 | some d => exact EP slots d v k
noncomputable def cS (ops : List Oper) (o : Oper) (slots : List AV) : Option Bool :=
 match o.guard with
 | none => some true
 | some (j, want) => match ops[j]? with
  | some oj => (match oj.dst with | some d => (match tA slots d with | .at (.bool b) => some (b == want) | .at (.tuple _) => some false | _ => none) | none => none)
  | none => none
def gN (n : Nat) : List Blk := List.replicate n .dead
structure Ent where
 o : Oper
 nid : Nat
 v : AV
 ws : List (Nat × Blk)
 rd : List Nat
 n : Nat
noncomputable def jr (P : Program) (call : dz) (ops : List Oper) (o : Oper) (st : St) : Option (St × Option Ent) :=
 match cS ops o st.slots with
 | some true => (match evalOp P (evA st.slots) st.heap st.heap.length o with
  | some (.pure v) => CI st.slots o.dst v fun s => some (⟨s, st.heap⟩, some ⟨o, st.heap.length, v, [], oO st.heap (evA st.slots) o, 0⟩)
  | some (.eff v ws) => CI st.slots o.dst v fun s => some (⟨s, aM st.heap ws⟩, some ⟨o, st.heap.length, v, ws, oO st.heap (evA st.slots) o, 0⟩)
  | some (.call f args) => (match call f args st.heap with
   | some (.loc v ws rd n) => CI st.slots o.dst v fun s => some (⟨s, aM (st.heap ++ gN n) ws⟩, some ⟨o, st.heap.length, v, ws, rd, n⟩)
   | some (.whole v H) => CI st.slots o.dst v fun s => some (⟨s, H⟩, none)
   | none => none)
  | none => none)
 | some false => CI st.slots o.dst (.at undef) fun s => some (⟨s, st.heap⟩, some ⟨o, st.heap.length, .at undef, [], [], 0⟩)
 | none => none
noncomputable def ga (P : Program) (call : dz) (ops : List Oper) : List Oper -> St -> Option St
 | [], st => some st
 | o :: rest, st => match jr P call ops o st with
  | some (st', _) => ga P call ops rest st'
  | none => none
def me (len : Nat) (e : Ent) : Bool :=
 (e.rd.all fun b => decide (b < len)) &&
 match e.n with
 | 0 => e.ws.all fun p => decide (p.1 <= len)
 | n + 1 => (e.ws.all fun p => decide (p.1 < len + (n + 1))) && (List.range (n + 1)).all fun j => (e.ws.map (·.1)).contains (len + j)
noncomputable def fq (P : Program) (call : dz) (ops : List Oper) : List Oper -> St -> Option (St × List Ent)
 | [], st => some (st, [])
 | o :: rest, st => match jr P call ops o st with
  | some (st', some e) => (match me st.heap.length e, fq P call ops rest st' with | true, some (j, es) => some (j, e :: es) | _, _ => none)
  | _ => none
def AB (l : List Operand) : List Tmp := l.filterMap fun | .tmp t => some t | _ => none
def dQ (ops : List Oper) (o : Oper) : List Tmp :=
 AB o.op.operands.toList ++ (match o.guard with | some (j, _) => (match ops[j]? with | some oj => oj.dst.toList | none => []) | none => [])
def u5 (acc : List Nat) (o : Oper) : Nat := o.after.toList.foldl (fun s e => if Region.binds .any e then s ||| (2 ^ e.on ||| acc.getD e.on 0) else s) 0
def rQ : List Nat -> List Oper -> List Nat
 | acc, [] => acc
 | acc, o :: rest => rQ (acc ++ [u5 acc o]) rest
def se (l k : List Nat) : Bool := l.all fun x => !k.contains x
def zF (ops : List Oper) (a b : Ent) : Bool :=
 let j := a.o.dst.toList
 let m := b.o.dst.toList
 se j (dQ ops b.o) && se j m && se m (dQ ops a.o) &&
 se (a.ws.map (·.1)) b.rd && se (a.ws.map (·.1)) (b.ws.map (·.1)) && se (b.ws.map (·.1)) a.rd
def rm (ops : List Oper) (a b : Ent) (j : List Ent) : Bool :=
 match a.o.op, b.o.op with
 | .lookup t (.tmp m) (.tmp k) false, .mapEntry q (.tmp z) (.tmp k') =>
  Nat.beq t q && Nat.beq m z && Nat.beq k k' && a.o.guard.isNone && b.o.guard.isNone && a.ws.isEmpty && se a.o.dst.toList (dQ ops b.o) && se a.o.dst.toList b.o.dst.toList && se b.o.dst.toList (dQ ops a.o) &&
  j.all fun c => se (c.ws.map (·.1)) a.rd && !c.o.dst.toList.contains m && !c.o.dst.toList.contains k
 | _, _ => false
def qj (ops : List Oper) (b : Ent) (m : Nat) : List Ent -> Nat -> Bool
 | [], _ => true
 | a :: es, i => (m.testBit i || zF ops a b || rm ops a b es) && (a.ws.all fun p => decide (p.1 < b.nid)) && qj ops b m es (i + 1)
def nu (ops : List Oper) (m : List Nat) (all : List Ent) : List Ent -> Nat -> Bool
 | [], _ => true
 | b :: es, j => qj ops b (m.getD j 0) (all.take j) 0 && nu ops m all es (j + 1)
def po : List Oper -> Nat -> Bool
 | [], _ => true
 | o :: rest, i => o.after.toList.all (fun e => !Region.binds .any e || decide (e.on < i)) && po rest (i + 1)
noncomputable def ja (P : Program) (call : dz) (ops : List Oper) (draw : Bool) (st : St) : Option St :=
 match draw with
 | false => ga P call ops ops st
 | true => match fq P call ops ops st with
  | some (st', es) => (match po ops 0 && nu ops (rQ [] ops) es es 0 with | true => some st' | false => none)
  | none => none
inductive X where
 | normal
 | exit (id : Nat)
 | ret
def iter (f : St -> Option (X × St)) : Nat -> St -> Option (X × St)
 | 0, _ => none
 | n + 1, st => match f st with
  | some (.normal, st') => iter f n st'
  | r => r
noncomputable def evalCode (P : Program) (call : dz) (n : Nat) : Code -> St -> Option (X × St)
 | .skip, st => some (.normal, st)
 | .label _, st => some (.normal, st)
 | .region _ ops draw, st => (match ja P call ops.toList draw st with | some st' => some (.normal, st') | none => none)
 | .seq a b, st => (match evalCode P call n a st with | some (.normal, st') => evalCode P call n b st' | r => r)
 | .cond c a b, st => (match evA st.slots c with | .at (.bool true) => evalCode P call n a st | .at (.bool false) => evalCode P call n b st | _ => none)
 | .block id c, st => (match evalCode P call n c st with | some (.exit j, st') => (match decide (j = id) with | true => some (.normal, st') | false => some (.exit j, st')) | r => r)
 | .loop c, st => iter (evalCode P call n c) n st
 | .exit id, st => some (.exit id, st)
 | .ret, st => some (.ret, st)
 | _, _ => none
noncomputable def uZ (P : Program) (st : St) : ResultVar -> Option AV
 | .tmp t => some (tA st.slots t)
 | .cell a t => xb P st.heap t (tA st.slots a)
noncomputable def dI (P : Program) (st : St) : List ResultVar -> Option (List AV)
 | [] => some []
 | r :: rs => match uZ P st r, dI P st rs with | some v, some vs => some (v :: vs) | _, _ => none
def gX : List AV -> AV | [v] => v | vs => .tup vs
def o8 (n : Nat) : List AV := List.replicate n .unk
noncomputable def om (P : Program) (call : dz) (n : Nat) (fn : Func) (args : List AV) (H : List Blk) : Option (AV × List Blk) :=
 match fn.body with
 | none => none
 | some c => match evalCode P call n c ⟨args ++ o8 (fn.ntmps - args.length), H⟩ with
  | some (.exit _, _) => none
  | some (_, st) => (match dI P st fn.results.toList with | some vs => some (gX vs, st.heap) | none => none)
  | none => none
def oq {α β : Type} (f : α -> Option β) : List α -> Option (List β)
 | [] => some []
 | x :: xs => match f x, oq f xs with | some y, some ys => some (y :: ys) | _, _ => none
def iZ (H : List Blk) (ok : Nat -> Bool) : Nat -> AV -> Option AV
 | _, .unk => some .unk
 | _, .at v => some (.at v)
 | _, .sl nl cs len => some (.sl nl cs len)
 | _, .pp cs off => some (.pp cs off)
 | 0, _ => none
 | n + 1, .hs b off len es => (match ok b, gw H es (.hs b off len es) with
  | true, some (cs, m) => (match oq (iZ H ok n) cs with | some cs' => some (.sl true cs' m) | none => none)
  | _, _ => none)
 | n + 1, .hp b off => (match ok b, H[b]? with
  | true, some (.own cs) => (match oq (iZ H ok n) cs with | some cs' => some (.pp cs' off) | none => none)
  | true, some (.fix cs) => (match oq (iZ H ok n) cs with | some cs' => some (.pp cs' off) | none => none)
  | _, _ => none)
 | _ + 1, .mp _ => none
 | n + 1, .agg cs => (match oq (iZ H ok n) cs with | some cs' => some (.agg cs') | none => none)
 | n + 1, .tup cs => (match oq (iZ H ok n) cs with | some cs' => some (.tup cs') | none => none)
 | n + 1, .fn f q cs => (match oq (iZ H ok n) q, oq (iZ H ok n) cs with | some j, some cs' => some (.fn f j cs') | _, _ => none)
mutual
def pF : AV -> Bool
 | .unk | .at _ => false
 | .agg cs => pf cs
 | .tup cs => pf cs
 | .fn _ j cs => pf j || pf cs
 | _ => true
def pf : List AV -> Bool
 | [] => false
 | c :: cs => pF c || pf cs
end
mutual
def mf : AV -> List Nat
 | .hs b _ _ _ => [b]
 | .hp b _ => [b]
 | .mp b => [b]
 | .agg cs => ct cs
 | .tup cs => ct cs
 | .fn _ j cs => ct j ++ ct cs
 | _ => []
def ct : List AV -> List Nat
 | [] => []
 | c :: cs => mf c ++ ct cs
end
def AX (G : List Blk) (ok : Nat -> Bool) (ρ : Nat -> Option Nat) : Nat -> AV -> Option AV
 | n, .hs b off len es => (match ρ b with | some c => some (.hs c off len es) | none => iZ G ok n (.hs b off len es))
 | n, .hp b off => (match ρ b with | some c => some (.hp c off) | none => iZ G ok n (.hp b off))
 | n + 1, .agg cs => (match oq (AX G ok ρ n) cs with | some cs' => some (.agg cs') | none => none)
 | n + 1, .tup cs => (match oq (AX G ok ρ n) cs with | some cs' => some (.tup cs') | none => none)
 | n, x => iZ G ok n x
def p8 (l : List Nat) (x : Nat) : List Nat := if l.contains x then l else l ++ [x]
def GQ : Option Blk -> List Nat
 | some (.own cs) => ct cs
 | some (.fix cs) => ct cs
 | _ => []
def reach (H : List Blk) : Nat -> List Nat -> List Nat
 | 0, l => l
 | n + 1, l => match (l.flatMap fun b => GQ H[b]?).filter fun b => !l.contains b with
  | [] => l
  | new => reach H n (new.foldl p8 l)
def cA (H : List Blk) (l : List Nat) : List (Nat × Blk) :=
 l.filterMap fun b : Nat => match (H[b]? : Option Blk) with | some (.own cs) => some (b, .fix cs) | _ => none
def findAt (l : List Nat) (x base : Nat) : Option Nat := match l with
 | [] => none
 | y :: ys => if y = x then some base else findAt ys x (base + 1)
def tL (G : List Blk) (ok : Nat -> Bool) (n : Nat) : List Nat -> Option (List (List AV))
 | [] => some []
 | b :: j => match G[b]? with
  | some (.own cs) => (match oq (iZ G ok n) cs, tL G ok n j with | some cs', some l => some (cs' :: l) | _, _ => none)
  | _ => none
def jw (nid : Nat) : List (List AV) -> List (Nat × Blk)
 | [] => []
 | x :: xs => (nid, .own x) :: jw (nid + 1) xs
def AK : Option Blk -> Bool | some (.own _) => true | _ => false
def wi : List Nat -> Bool
 | [] => true
 | x :: xs => !xs.contains x && wi xs
def pv (n : Nat) (l : List Nat) (H G : List Blk) (r : AV) : Option tk :=
 match pF r with
 | false => some (.loc r [] l 0)
 | true =>
  let σ := ((mf r).filter fun b => AK G[b]?).foldl p8 []
  match wi σ, tL G (fun b => !σ.contains b) n σ, AX G (fun b => !σ.contains b) (findAt σ · H.length) n r with
  | true, some new, some j => some (.loc j (cA H l ++ jw H.length new) l new.length)
  | _, _, _ => none
end Go.Eng


namespace Go.Eng
open Go Go.RowKit
variable [Dr]
def gz (P : Program) (f : FuncId) (args : List AV) (H : List Blk) : tk -> Prop
 | .loc v ws rd n => ∀ H' : List Blk, H.length + n <= H'.length -> (∀ b ∈ rd, b < H.length -> H'[b]? = H[b]?) -> ∀ (out : Nat -> Prop) (B : Nat -> Prop) (w : World) (π : List (Option PB)) (vs : List Value),
   Inv out B w π H' -> (∀ j, H.length <= j -> j < H.length + n -> ∀ q, π[j]? ≠ some (some q)) -> RvL w (aJ out π H') π args vs ->
   Calls P f vs.toArray w fun e w' => ∃ u π', e = .returned u /\ Ext B w w' (aJ out π H') (aJ out π' (aM H' ws)) π π' /\ Inv out B w' π' (aM H' ws) /\ Rv w' (aJ out π' (aM H' ws)) π' v u /\
    ∀ j, (∀ b, (j, b) ∉ ws) -> π'[j]? = π[j]?
 | .whole v H' => ∀ (out : Nat -> Prop) (B : Nat -> Prop) (w : World) (π : List (Option PB)) (vs : List Value), Inv out B w π H -> RvL w (aJ out π H) π args vs ->
   Calls P f vs.toArray w fun e w' => ∃ u π', e = .returned u /\ Ext B w w' (aJ out π H) (aJ out π' H') π π' /\ Inv out B w' π' H' /\ Rv w' (aJ out π' H') π' v u
def fP (P : Program) (call : dz) : Prop := ∀ f args H r, call f args H = some r -> gz P f args H r
structure Rep (out : Nat -> Prop) (B : Nat -> Prop) (w : World) (π : List (Option PB)) (st : St) (a : Act) : Prop where
 defers : a.defers = []
 slots : RvL w (aJ out π st.heap) π st.slots a.tmps.toList
 inv : Inv out B w π st.heap
section
variable {P : Program} {out : Nat -> Prop} {B : Nat -> Prop} {w : World} {π : List (Option PB)}
theorem jK {mu : Nat -> Prop} {slots : List AV} {tmps : Array Value} (h : RvL w mu π slots tmps.toList) (t : Nat) : Rv w mu π (tA slots t) (tmps.getD t undef) := by
 rw [th]
 cases hs : slots[t]? with
 | none => simp [List.getD, hs, Rv]
 | some A =>
  obtain ⟨v, h1, h2⟩ := RvL.get _ _ t A h hs
  have e1 : slots.getD t .unk = A := by simp [List.getD, hs]
  have e2 : tmps.getD t undef = v := by
   rw [Array.getElem?_toList] at h1
   rw [Array.getD_eq_getD_getElem?, h1]; rfl
  rw [e1, e2]; exact h2
theorem jd {mu : Nat -> Prop} {slots : List AV} {a : Act} (h : RvL w mu π slots a.tmps.toList) : ∀ x, Rv w mu π (evA slots x) (a.eval x)
 | .tmp t => jK h t
 | .const _ => rfl
 | .global _ => rfl
 | .func _ => ⟨#[], #[], rfl, rfl, rfl⟩
theorem kZ {mu : Nat -> Prop} {ops : Array Oper} {o : Oper} {slots : List AV} {a : Act} {b : Bool} (h : RvL w mu π slots a.tmps.toList) (hw : cS ops.toList o slots = some b) :
  Region.wanted o (yielded ops a.tmps) = b := by
 unfold cS at hw
 unfold Region.wanted
 split at hw
 · rename_i C; cases hw; simp [C]
 · rename_i j want C
   split at hw
   · rename_i oj z
     split at hw
     · rename_i d hd
       split at hw
       · rename_i c hc
         cases hw
         have hs := jK h d
         rw [hc] at hs
         have m : a.tmps.getD d undef = .bool c := hs
         have D : a.tmps[d]? = some (.bool c) := by
          rw [Array.getD_eq_getD_getElem?] at m
          cases q : a.tmps[d]? with
          | none => rw [q] at m; simp [undef] at m
          | some x => rw [q] at m; simpa using m
         have E : yielded ops a.tmps j = some c := by
          rw [Array.getElem?_toList] at z
          simp [yielded, z, hd, D]
         simp [C, E]
       · rename_i vs hc
         cases hw
         have hs := jK h d
         rw [hc] at hs
         have m : a.tmps.getD d undef = .tuple vs := hs
         have E : yielded ops a.tmps j = none := by
          rw [Array.getElem?_toList] at z
          rw [Array.getD_eq_getD_getElem?] at m
          cases q : a.tmps[d]? with
          | none => simp [yielded, z, hd, q]
          | some x => rw [q] at m; simp only [Option.getD_some] at m; subst m; simp [yielded, z, hd, q]
         simp [C, E]
       · cases hw
     · cases hw
   · cases hw
theorem tW {mu : Nat -> Prop} {slots : List AV} {a : Act} {dst : Option Tmp} {A : AV} {v : Value} (h : RvL w mu π slots a.tmps.toList) (j : Rv w mu π A v) : RvL w mu π (fS slots dst A) (a.put dst v).tmps.toList := by
 cases dst with
 | none => exact h
 | some d => simp only [fS, Act.put, Array.toList_setIfInBounds]; exact RvL.set _ _ d A v h j
theorem put_defers {a : Act} {dst : Option Tmp} {v : Value} : (a.put dst v).defers = a.defers := by cases dst <;> rfl
theorem Inv.extend {H : List Blk} (z : Inv out B w π H) (n : Nat) :
  Inv out B w (π ++ List.replicate n none) (H ++ gN n) /\ Ext B w w (aJ out π H) (aJ out (π ++ List.replicate n none) (H ++ gN n)) π (π ++ List.replicate n none) := by
 have T := z.len
 have D : ∀ {i : Nat} {x : Blk}, (H ++ gN n)[i]? = some x -> H[i]? = some x \/ (H.length <= i /\ x = .dead) := by
  intro i x h
  by_cases hi : i < H.length
  · rw [List.getElem?_append_left hi] at h; exact .inl h
  · rw [List.getElem?_append_right (by omega)] at h
    refine .inr ⟨by omega, ?_⟩
    have := List.mem_of_getElem? h
    simp [gN] at this
    exact this.2
 have gπ : ∀ {i : Nat} {p : PB}, (π ++ List.replicate n none)[i]? = some (some p) -> π[i]? = some (some p) := by
  intro i p h
  by_cases hi : i < π.length
  · rwa [List.getElem?_append_left hi] at h
  · rw [List.getElem?_append_right (by omega)] at h
    have := List.mem_of_getElem? h
    simp at this
 have M : Ext B w w (aJ out π H) (aJ out (π ++ List.replicate n none) (H ++ gN n)) π (π ++ List.replicate n none) := by
  refine ⟨fun _ _ => rfl, Nat.le_refl _, fun b _ hb => ⟨rfl, ?_⟩, fun i p h => ?_, rfl, rfl, rfl, fun _ => Nat.le_refl _⟩
  · rintro (U | ⟨i, x, p, h1, h2, C, E⟩)
    · exact hb (.inl U)
    · rcases D h1 with m | ⟨_, rfl⟩
      · exact hb (.inr ⟨i, x, p, m, h2, gπ C, E⟩)
      · simp [Blk.hZ] at h2
  · rw [List.getElem?_append_left (aT h)]; exact h
 refine ⟨⟨by simp [T, gN], z.bound, z.out_lt, ?_, ?_, ?_⟩, M⟩
 · intro i x p h1 h2 C
   rcases D h1 with m | ⟨_, rfl⟩
   · exact z.base i x p m (gπ h2) C
   · simp [Blk.isLive] at C
 · intro i x p h1 h2
   rcases D h1 with m | ⟨_, rfl⟩
   · exact gr.ext M (fun _ => rfl) (z.ok i x p m (gπ h2))
   · trivial
 · intro i j x y p q I h1 h2 C E N O
   rcases D h1 with m | ⟨_, rfl⟩
   · rcases D h2 with J | ⟨_, rfl⟩
     · exact z.sep i j x y p q I m J (gπ C) (gπ E) N O
     · simp [Blk.isLive] at O
   · simp [Blk.hZ] at N
theorem q8 {H : List Blk} (j : Inv out B w π H) : ∀ q, π[H.length]? ≠ some (some q) := by
 intro q h; have := aT h; have := j.len; omega
theorem Rep.ext {w' : World} {π' : List (Option PB)} {H H' : List Blk} {slots : List AV} {a : Act} (hd : a.defers = []) (hs : RvL w (aJ out π H) π slots a.tmps.toList) (j : Ext B w w' (aJ out π H) (aJ out π' H') π π') (m : Inv out B w' π' H')
  {dst : Option Tmp} {A : AV} {v : Value} (q : Rv w' (aJ out π' H') π' A v) : Rep out B w' π' ⟨fS slots dst A, H'⟩ (a.put dst v) :=
 ⟨by rw [put_defers]; exact hd, tW (RvL.ext j _ _ hs) q, m⟩
theorem yZ (C : rB P) {call : dz} (z : fP P call) {ops : Array Oper} {o : Oper} {st st' : St} {oe : Option Ent} {a : Act} (m : Rep out B w π st a) (h : jr P call ops.toList o st = some (st', oe))
  {K : Act -> World -> Prop} {Q : Exit -> Act -> World -> Prop}
  (D : ∀ a' w' π', Rep out B w' π' st' a' -> Ext B w w' (aJ out π st.heap) (aJ out π' st'.heap) π π' -> K a' w') :
  if Region.wanted o (yielded ops a.tmps) then o.wp P a w K Q \/ (o.asks P a w /\ LetsOut Q) else K (a.put o.dst undef) w := by
 unfold jr at h
 split at h
 · rename_i hw
   rw [if_pos (kZ m.slots hw)]
   refine .inl ?_
   unfold Oper.wp
   split at h
   · rename_i v J
     rw [dY] at h
     cases h
     obtain ⟨nx, u, h1, h2, E⟩ := jj C m.inv (Nat.le_refl _) (q8 m.inv) (jd m.slots) J
     rw [h1]
     rcases h2 with rfl | ⟨rfl, rfl⟩
     · exact D _ _ π (Rep.ext m.defers m.slots (Ext.refl _ _ _) m.inv E) (Ext.refl _ _ _)
     · exact D _ _ π (Rep.ext m.defers m.slots (Ext.refl _ _ _) m.inv E) (Ext.refl _ _ _)
   · rename_i v ws J
     rw [dY] at h
     cases h
     obtain ⟨nx, u, w', π', h1, h2, E, Y, h5, _⟩ := jj C m.inv (Nat.le_refl _) (q8 m.inv) (jd m.slots) J
     rw [h1]
     rcases h2 with rfl | ⟨rfl, rfl⟩
     · exact D _ _ π' (Rep.ext m.defers m.slots E Y h5) E
     · exact D _ _ π' (Rep.ext m.defers m.slots E Y h5) E
   · rename_i f args J
     obtain ⟨vs, h1, h2⟩ := jj C m.inv (Nat.le_refl _) (q8 m.inv) (jd m.slots) J
     rw [h1]
     simp only [Oper.upon]
     split at h
     · rename_i v ws rd n hc
       rw [dY] at h
       cases h
       obtain ⟨M, I⟩ := m.inv.extend n
       have hl := m.inv.len
       have := z _ _ _ _ hc (st.heap ++ gN n) (by simp [gN]) (fun b _ N => by rw [List.getElem?_append_left N]) out B w (π ++ List.replicate n none) vs.toList M (fun j h1 _ q hq => by
             rw [List.getElem?_append_right (by omega)] at hq
             have := List.mem_of_getElem? hq
             simp at this) (RvL.ext I _ _ h2)
       rw [Array.toArray_toList] at this
       refine this.mono ?_
       rintro e O ⟨u, π', rfl, g1, T, U, _⟩
       exact D _ _ π' (Rep.ext m.defers (RvL.ext I _ _ m.slots) g1 T U) (I.trans g1)
     · rename_i v H' hc
       rw [dY] at h
       cases h
       have := z _ _ _ _ hc out B w π vs.toList m.inv h2
       rw [Array.toArray_toList] at this
       refine this.mono ?_
       rintro e O ⟨u, π', rfl, g1, T, U⟩
       exact D _ _ π' (Rep.ext m.defers m.slots g1 T U) g1
     · cases h
   · cases h
 · rename_i hw
   rw [kZ m.slots hw]
   simp only [Bool.false_eq_true, if_false]
   rw [dY] at h
   cases h
   exact D _ _ π (Rep.ext m.defers m.slots (Ext.refl _ _ _) m.inv rfl) (Ext.refl _ _ _)
 · cases h
end
end Go.Eng

