/- The engine, part 18: the steps' rules, gathered. -/
import Derived.Test.YtlajgmapmocpbaaGreatEng17e
set_option linter.unusedSimpArgs false
set_option linter.unusedVariables false
namespace Go.Eng
open Go Go.RowKit

attribute [go_sem] evalOp evA putA opPick pickA opAlloc opBox opBuildSlice opStore opNilCheck opConvert convA opSlice opCall builtinA ORes.ofP lenA binOpA IntKind.beqA intOpA loadA storeA cellAt cellsFrom
attribute [go_sem] indexAddrA intA kindA plusA cellsOf isCell partA updAll deads setCells fillA zerosA sliceCells readsOf ptrBlk entOk boundsA
attribute [go_sem] unks resultsA resultA packA answer

@[go_sem] theorem getS_zero {x : AV} {l : List AV} : getS (x :: l) 0 = x := rfl
@[go_sem] theorem getS_succ {x : AV} {l : List AV} {n : Nat} : getS (x :: l) (n + 1) = getS l n := rfl
@[go_sem] theorem upd_lt {α : Type} {l : List α} {i : Nat} {x : α} : upd l i x = if i < l.length then l.set i x else l ++ [x] := rfl
attribute [go_sem] List.set_cons_zero List.set_cons_succ List.getD_cons_zero List.getD_cons_succ List.getElem?_cons_zero List.getElem?_cons_succ List.cons_append List.nil_append List.append_nil List.length_cons List.length_nil List.map_cons List.map_nil List.replicate_succ List.replicate_zero List.set_nil
attribute [go_sem] List.take_succ_cons List.take_zero List.drop_succ_cons List.drop_zero List.all_cons List.all_nil List.flatMap_cons List.flatMap_nil
attribute [go_sem] if_true if_false Bool.false_eq_true Bool.not_true Bool.not_false snapA mapO reach_nil List.foldl_nil List.foldl_cons insNat callH callI bringA hasRef hasRefL idsOf idsOfL freezeW List.filterMap_nil

noncomputable def callG (P : Program) (X : FuncId → Option (List AV → Option AV)) (n : Nat) (f : FuncId) (o : Option (List AV → Option AV)) (args : List AV) (H : List Blk) : Option CRes :=
  match o with | some F => callF n F args H | none => evalCall P (fun _ => false) X (n + 1) f args H
@[go_sem] theorem callG_some {P : Program} {X : FuncId → Option (List AV → Option AV)} {n : Nat} {f : FuncId} {F : List AV → Option AV} {args : List AV} {H : List Blk} : callG P X n f (some F) args H = callF n F args H := rfl
@[go_sem] theorem evalCall_G {P : Program} {X : FuncId → Option (List AV → Option AV)} {n : Nat} {f : FuncId} {args : List AV} {H : List Blk} (hf : callable P f = true) : evalCall P (fun _ => false) X (n + 1) f args H = callG P X n f (X f) args H := by
  cases hX : X f with
  | some F => exact evalCall_X hf hX
  | none => rfl
attribute [go_sem] callF

/-- One contract more. -/
def addX (f : FuncId) (F : List AV → Option AV) (X : FuncId → Option (List AV → Option AV)) : FuncId → Option (List AV → Option AV) := fun g => if g = f then some F else X g
theorem addX_ok {P : Program} {f : FuncId} {F : List AV → Option AV} {X : FuncId → Option (List AV → Option AV)} (h : ExtOk P f F) (hX : ∀ f F, X f = some F → ExtOk P f F) : ∀ g G, addX f F X g = some G → ExtOk P g G := by
  intro g G hg
  unfold addX at hg
  split at hg
  · rename_i e; cases hg; rw [e]; exact h
  · exact hX g G hg
attribute [go_sem] addX List.getElem?_toArray Value.oneCell' Bool.and_true Bool.true_and Bool.and_self optV toV Nat.lt_irrefl
theorem unary_not {P : Program} {b : Bool} : pureRun P (Op.unary .not (.bool b)) = some (.bool (!b)) := rfl
theorem pureRun_pure {P : Program} {v : Value} : pureRun P (pure v) = some v := rfl
attribute [go_sem] unary_not pureRun_pure

/-- Some slots set. -/
def setAll : List AV → List Nat → List AV → List AV
  | s, i :: is, v :: vs => setAll (s.set i v) is vs
  | s, _, _ => s
attribute [go_sem] setAll
/-- A loop whose rounds write the slots W alone. -/
theorem EV_loopW {P : Program} {call : CallF} {n : Nat} {c : Code} {s : List AV} {h : List Blk} {Q : Post} (W : List Nat) (I : Nat → List AV → List Blk → Prop) (m : Nat) (hm : m < n) (v0 : List AV) (hv : setAll s W v0 = s) (h0 : I m v0 h)
    (hstep : ∀ k v h, I k v h → EV P call n c (setAll s W v) h (loopQ (fun k' s' h' => ∃ v', setAll s W v' = s' ∧ I k' v' h') k Q)) : EV P call n (.loop c) s h Q := by
  refine EV_loop (fun k' s' h' => ∃ v', setAll s W v' = s' ∧ I k' v' h') m hm ⟨v0, hv, h0⟩ ?_
  rintro k s' h' ⟨v, rfl, hI⟩
  exact hstep k v h' hI

/-! A loop, round by round. -/
def EVI (P : Program) (call : CallF) (n : Nat) (c : Code) (k : Nat) (s : List AV) (h : List Blk) (Q : Post) : Prop := ∃ x st', iter (evalCode P call n c) k ⟨s, h⟩ = some (x, st') ∧ Q x st'.slots st'.heap
def iterQ (P : Program) (call : CallF) (n : Nat) (c : Code) (k : Nat) (Q : Post) : Post := fun x s h => match x with | .normal => EVI P call n c k s h Q | x => Q x s h
theorem EV_rounds {P : Program} {call : CallF} {n : Nat} {c : Code} {s : List AV} {h : List Blk} {Q : Post} (hI : EVI P call n c n s h Q) : EV P call n (.loop c) s h Q := by
  obtain ⟨x, st', e, hq⟩ := hI
  exact ⟨x, st', by simp only [evalCode]; exact e, hq⟩
theorem EVI_step {P : Program} {call : CallF} {n k : Nat} {c : Code} {s : List AV} {h : List Blk} {Q : Post} (hI : EV P call n c s h (iterQ P call n c k Q)) : EVI P call n c (k + 1) s h Q := by
  obtain ⟨x, st', e, hq⟩ := hI
  unfold EVI
  simp only [iter, e]
  cases x with
  | normal => exact hq
  | exit i => exact ⟨_, _, rfl, hq⟩
  | ret => exact ⟨_, _, rfl, hq⟩
@[go_sem] theorem iterQ_normal {P : Program} {call : CallF} {n k : Nat} {c : Code} {s : List AV} {h : List Blk} {Q : Post} : iterQ P call n c k Q .normal s h = EVI P call n c k s h Q := rfl
@[go_sem] theorem iterQ_ret {P : Program} {call : CallF} {n k : Nat} {c : Code} {s : List AV} {h : List Blk} {Q : Post} : iterQ P call n c k Q .ret s h = Q .ret s h := rfl
@[go_sem] theorem iterQ_exit {P : Program} {call : CallF} {n k i : Nat} {c : Code} {s : List AV} {h : List Blk} {Q : Post} : iterQ P call n c k Q (.exit i) s h = Q (.exit i) s h := rfl
end Go.Eng
