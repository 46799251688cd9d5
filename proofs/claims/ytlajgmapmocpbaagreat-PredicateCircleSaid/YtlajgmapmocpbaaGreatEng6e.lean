/- The engine, part 6: on what an operation's answer depends; regions. -/
import Derived.Test.YtlajgmapmocpbaaGreatEng5e
set_option linter.unusedSimpArgs false
set_option linter.unusedVariables false
namespace Go.Eng
open Go Go.RowKit

theorem evalOp_heap {P : Program} {ρ : Operand → AV} {H H' : List Blk} {nid : Nat} {o : Oper} (h : ∀ b ∈ readsOf ρ o, H[b]? = H'[b]?) : evalOp P ρ H nid o = evalOp P ρ H' nid o := by
  have cellAt_eq : ∀ a : AV, (∀ b ∈ ptrBlk a, H[b]? = H'[b]?) → cellAt H a = cellAt H' a := by
    intro a ha; cases a <;> simp only [cellAt]
    rw [ha _ (by simp [ptrBlk])]
  have cellsFrom_eq : ∀ a : AV, (∀ b ∈ ptrBlk a, H[b]? = H'[b]?) → cellsFrom H a = cellsFrom H' a := by
    intro a ha; cases a <;> simp only [cellsFrom]
    rw [ha _ (by simp [ptrBlk])]
  have sliceCells_eq : ∀ (n : Nat) (a : AV), (∀ b ∈ ptrBlk a, H[b]? = H'[b]?) → sliceCells H n a = sliceCells H' n a := by
    intro n a ha
    unfold sliceCells
    split <;> try rfl
    rw [ha _ (by simp [ptrBlk])]
  unfold evalOp
  unfold readsOf at h
  cases hop : o.op <;> simp only [hop, opPick, opAlloc, opBox, opBuild, opBuildSlice, opStore, opNilCheck, opConvert, opMakeSlice, opSlice, opCall] at h ⊢
  case load t a =>
    simp only [loadA, cellAt_eq _ h, cellsFrom_eq _ h]
  case store t a x =>
    simp only [storeA]
    cases ha : ρ a <;> simp only
    rw [h _ (by simp [ha, ptrBlk])]
  case slice t x lo hi mx =>
    cases mx with
    | some _ => rfl
    | none =>
      simp only
      have : ∀ y lo hi, (∀ b ∈ ptrBlk y, H[b]? = H'[b]?) → sliceA P H t y lo hi = sliceA P H' t y lo hi := by
        intro y lo hi hy
        simp only [sliceA]
        cases P.underlying t with
        | none => rfl
        | some d =>
          cases d <;> simp only
          cases tSize P _ <;> cases y <;> simp only
          rw [hy _ (by simp [ptrBlk])]
      split
      · rfl
      · rw [this _ _ _ h]
  case makeFunc fn fs cs => cases fn <;> rfl
  case call c =>
    cases hc : c.callee <;> simp only
    simp only [builtinA]
    split <;> try rfl
    rename_i s x heq
    have h1 : ∀ b ∈ ptrBlk s, H[b]? = H'[b]? := by
      intro b hb
      refine h b (List.mem_flatMap.2 ?_)
      have : s ∈ c.args.toList.map ρ := by rw [heq]; simp
      obtain ⟨y, hy, rfl⟩ := List.mem_map.1 this
      exact ⟨y, hy, hb⟩
    have h2 : ∀ b ∈ ptrBlk x, H[b]? = H'[b]? := by
      intro b hb
      refine h b (List.mem_flatMap.2 ?_)
      have : x ∈ c.args.toList.map ρ := by rw [heq]; simp
      obtain ⟨y, hy, rfl⟩ := List.mem_map.1 this
      exact ⟨y, hy, hb⟩
    have : ∀ n by_, appendA H nid n by_ s x = appendA H' nid n by_ s x := by
      intro n by_
      simp only [appendA, sliceCells_eq _ _ h2]
      split
      · rfl
      · split
        · rfl
        · rfl
        · rw [h1 _ (by simp [ptrBlk])]
        · rfl
    simp only [this]

theorem evalOp_ops {P : Program} {ρ ρ' : Operand → AV} {H : List Blk} {nid : Nat} {o : Oper} (h : ∀ x ∈ o.op.operands.toList, ρ x = ρ' x) : evalOp P ρ H nid o = evalOp P ρ' H nid o := by
  have hparts : ∀ (l : List (Nat × Operand)), (∀ x ∈ (l.map (·.2)), ρ x = ρ' x) → (l.map fun p => (p.1, ρ p.2)) = l.map fun p => (p.1, ρ' p.2) := by
    intro l hl
    apply List.map_congr_left
    intro p hp
    rw [hl _ (List.mem_map_of_mem hp)]
  have hmap : ∀ (l : List Operand), (∀ x ∈ l, ρ x = ρ' x) → l.map ρ = l.map ρ' := fun l hl => List.map_congr_left hl
  unfold evalOp
  cases hop : o.op <;> simp only [hop, Op.operands, opPick, opAlloc, opBox, opBuild, opBuildSlice, opStore, opNilCheck, opConvert, opMakeSlice, opSlice, opCall] at h ⊢
  case move x => rw [h x (by simp)]
  case «assign» x => rw [h x (by simp)]
  case pick c a b => rw [h c (by simp), h a (by simp), h b (by simp)]
  case box t x => rw [h x (by simp)]
  case build t ps => rw [hparts _ (by simpa using h)]
  case buildSlice t n ps => rw [hparts _ (by simpa using h)]
  case load t a => rw [h a (by simp)]
  case store t a x => rw [h a (by simp), h x (by simp)]
  case nilCheck x => rw [h x (by simp)]
  case binOp op t x y u => rw [h x (by simp), h y (by simp)]
  case unOp op t x => rw [h x (by simp)]
  case convert s d x => rw [h x (by simp)]
  case makeFunc fn fs cs =>
    cases fn <;> simp only
    rw [hmap fs.toList (fun x hx => h x (by simp at hx ⊢; exact .inl hx)), hmap cs.toList (fun x hx => h x (by simp at hx ⊢; exact .inr hx))]
  case makeSlice t l c => rw [h l (by simp), h c (by simp)]
  case slice t x lo hi mx =>
    cases mx with
    | some _ => rfl
    | none =>
      have e1 : ρ x = ρ' x := h x (by simp)
      have e2 : lo.map ρ = lo.map ρ' := by cases lo with | none => rfl | some y => simp [h y (by simp)]
      have e3 : hi.map ρ = hi.map ρ' := by cases hi with | none => rfl | some y => simp [h y (by simp)]
      simp only [e1, e2, e3]
      cases lo <;> cases hi <;> simp_all
  case fieldAddr s x f => rw [h x (by simp)]
  case field s x f => rw [h x (by simp)]
  case indexAddr t x ix => rw [h x (by simp), h ix (by simp)]
  case index t x ix => rw [h x (by simp), h ix (by simp)]
  case extract t ix => rw [h t (by simp)]
  case call c =>
    have ha : c.args.toList.map ρ = c.args.toList.map ρ' := hmap _ fun x hx => h x (by simp only [Call.operands, Array.toList_append, List.mem_append]; exact .inr hx)
    cases hc : c.callee <;> simp only
    case value f =>
      have : ρ f = ρ' f := h f (by simp [Call.operands, hc])
      rw [this, ha]
    case builtin b => rw [ha]

theorem readsOf_ops {ρ ρ' : Operand → AV} {o : Oper} (h : ∀ x ∈ o.op.operands.toList, ρ x = ρ' x) : readsOf ρ o = readsOf ρ' o := by
  unfold readsOf
  cases hop : o.op <;> simp only [hop, Op.operands] at h ⊢
  case load t a => rw [h a (by simp)]
  case store t a x => rw [h a (by simp)]
  case slice t x lo hi mx => rw [h x (by simp)]
  case call c =>
    have : ∀ x ∈ c.args.toList, ρ x = ρ' x := fun x hx => h x (by simp only [Call.operands, Array.toList_append, List.mem_append]; exact .inr hx)
    generalize c.args.toList = l at this
    induction l with
    | nil => rfl
    | cons x l ih => simp only [List.flatMap_cons]; rw [this x (by simp), ih fun y hy => this y (by simp [hy])]
end Go.Eng
