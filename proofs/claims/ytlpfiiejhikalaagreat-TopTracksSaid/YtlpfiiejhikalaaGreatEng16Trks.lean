import Derived.Test.YtlpfiiejhikalaaGreatEng14Trks
set_option linter.all false
namespace Go.Eng
open Go Go.RowKit
variable [Dr]
section
variable {P : Program}
structure Row where
 f : FuncId
 args : List AV
 r : AV
end
instance drF : Dr := ⟨false⟩
end Go.Eng


namespace Go.Eng
open Go Go.RowKit
variable [Dr]
abbrev kE := X -> List AV -> List Blk -> Prop
def EV (P : Program) (call : dN) (n : Nat) (c : Code) (s : List AV) (h : List Blk) (Q : kE) : Prop := ∃ x st', evalCode P call n c ⟨s, h⟩ = some (x, st') /\ Q x st'.slots st'.heap
def EVO (P : Program) (call : dN) (ops rest : List Oper) (s : List AV) (h : List Blk) (K : List AV -> List Blk -> Prop) : Prop := ∃ st', e9 P call ops rest ⟨s, h⟩ = some st' /\ K st'.slots st'.heap
def EVT (P : Program) (call : dN) (ops rest : List Oper) (s : List AV) (h : List Blk) (K : List AV -> List Blk -> List Ent -> Prop) : Prop := ∃ st' es, dY P call ops rest ⟨s, h⟩ = some (st', es) /\ K st'.slots st'.heap es
def EVK (r : Option qe) (dst : Option Tmp) (s : List AV) (h : List Blk) (K : List AV -> List Blk -> Prop) : Prop :=
 match r with
 | some (.loc v ws _ n) => K (eS s dst v) (aO (h ++ ft n) ws)
 | some (.whole v H) => K (eS s dst v) H
 | none => False
def EVP (call : dN) (r : Option bc) (dst : Option Tmp) (s : List AV) (h : List Blk) (K : List AV -> List Blk -> Prop) : Prop :=
 match r with
 | some (.pure v) => K (eS s dst v) h
 | some (.eff v ws) => K (eS s dst v) (aO h ws)
 | some (.call f args) => EVK (call f args h) dst s h K
 | none => False
abbrev SH := List AV -> List Blk -> Prop
def EVC (v : AV) (A B : SH) (s : List AV) (h : List Blk) : Prop := match v with | .at (.bool true) => A s h | .at (.bool false) => B s h | _ => False
def Ai (P : Program) (call : dN) (n : Nat) (b : Code) (Q : kE) : kE := fun x s h => match x with | .normal => EV P call n b s h Q | x => Q x s h
def nH (id : Nat) (Q : kE) : kE := fun x s h => match x with | .exit i => (match decide (i = id) with | true => Q .normal s h | false => Q (.exit i) s h) | x => Q x s h
section
variable {P : Program} {call : dN} {n : Nat}
@[congr] theorem Dk {c : Code} {s s' : List AV} {h h' : List Blk} {Q : kE} (e1 : s = s') (e2 : h = h') : EV P call n c s h Q = EV P call n c s' h' Q := by rw [e1, e2]
@[congr] theorem B6 {ops rest : List Oper} {s s' : List AV} {h h' : List Blk} {K : List AV -> List Blk -> Prop} (e1 : s = s') (e2 : h = h') : EVO P call ops rest s h K = EVO P call ops rest s' h' K := by rw [e1, e2]
@[congr] theorem B8 {ops rest : List Oper} {s s' : List AV} {h h' : List Blk} {K : List AV -> List Blk -> List Ent -> Prop} (e1 : s = s') (e2 : h = h') : EVT P call ops rest s h K = EVT P call ops rest s' h' K := by rw [e1, e2]
@[congr] theorem B9 {r r' : Option bc} {dst : Option Tmp} {s s' : List AV} {h h' : List Blk} {K : List AV -> List Blk -> Prop} (e0 : r = r') (e1 : s = s') (e2 : h = h') : EVP call r dst s h K = EVP call r' dst s' h' K := by rw [e0, e1, e2]
@[congr] theorem Cb {r r' : Option qe} {dst : Option Tmp} {s s' : List AV} {h h' : List Blk} {K : List AV -> List Blk -> Prop} (e0 : r = r') (e1 : s = s') (e2 : h = h') : EVK r dst s h K = EVK r' dst s' h' K := by rw [e0, e1, e2]
@[go_sem] theorem C1 {v : AV} {dst : Option Tmp} {s : List AV} {h : List Blk} {K : List AV -> List Blk -> Prop} : EVP call (some (.pure v)) dst s h K = K (eS s dst v) h := rfl
@[go_sem] theorem Dw {v : AV} {ws : List (Nat × Blk)} {dst : Option Tmp} {s : List AV} {h : List Blk} {K : List AV -> List Blk -> Prop} : EVP call (some (.eff v ws)) dst s h K = K (eS s dst v) (aO h ws) := rfl
@[go_sem] theorem y7 {f : FuncId} {args : List AV} {dst : Option Tmp} {s : List AV} {h : List Blk} {K : List AV -> List Blk -> Prop} : EVP call (some (.call f args)) dst s h K = EVK (call f args h) dst s h K := rfl
@[go_sem] theorem Dz {v : AV} {ws : List (Nat × Blk)} {rd : List Nat} {m : Nat} {dst : Option Tmp} {s : List AV} {h : List Blk} {K : List AV -> List Blk -> Prop} : EVK (some (.loc v ws rd m)) dst s h K = K (eS s dst v) (aO (h ++ ft m) ws) := rfl
@[go_sem] theorem B7 {v : AV} {H : List Blk} {dst : Option Tmp} {s : List AV} {h : List Blk} {K : List AV -> List Blk -> Prop} : EVK (some (.whole v H)) dst s h K = K (eS s dst v) H := rfl
@[go_sem] theorem Er {A B : SH} {s : List AV} {h : List Blk} : EVC (.at (.bool true)) A B s h = A s h := rfl
@[go_sem] theorem Es {A B : SH} {s : List AV} {h : List Blk} : EVC (.at (.bool false)) A B s h = B s h := rfl
@[go_sem] theorem Dy {s : List AV} {h : List Blk} {Q : kE} : EV P call n .skip s h Q = Q .normal s h := by
 apply propext; constructor
 · rintro ⟨x, st', e, hq⟩; simp only [evalCode, Option.some.injEq, Prod.mk.injEq] at e; obtain ⟨rfl, rfl⟩ := e; exact hq
 · intro hq; exact ⟨_, _, rfl, hq⟩
@[go_sem] theorem Dg {s : List AV} {h : List Blk} {i : Nat} {Q : kE} : EV P call n (.label i) s h Q = Q .normal s h := by
 apply propext; constructor
 · rintro ⟨x, st', e, hq⟩; simp only [evalCode, Option.some.injEq, Prod.mk.injEq] at e; obtain ⟨rfl, rfl⟩ := e; exact hq
 · intro hq; exact ⟨_, _, rfl, hq⟩
@[go_sem] theorem D1 {s : List AV} {h : List Blk} {Q : kE} : EV P call n .ret s h Q = Q .ret s h := by
 apply propext; constructor
 · rintro ⟨x, st', e, hq⟩; simp only [evalCode, Option.some.injEq, Prod.mk.injEq] at e; obtain ⟨rfl, rfl⟩ := e; exact hq
 · intro hq; exact ⟨_, _, rfl, hq⟩
@[go_sem] theorem Dx {s : List AV} {h : List Blk} {i : Nat} {Q : kE} : EV P call n (.exit i) s h Q = Q (.exit i) s h := by
 apply propext; constructor
 · rintro ⟨x, st', e, hq⟩; simp only [evalCode, Option.some.injEq, Prod.mk.injEq] at e; obtain ⟨rfl, rfl⟩ := e; exact hq
 · intro hq; exact ⟨_, _, rfl, hq⟩
@[go_sem] theorem AJ {b : Code} {Q : kE} {s : List AV} {h : List Blk} : Ai P call n b Q .normal s h = EV P call n b s h Q := rfl
@[go_sem] theorem Ca {b : Code} {Q : kE} {s : List AV} {h : List Blk} {i : Nat} : Ai P call n b Q (.exit i) s h = Q (.exit i) s h := rfl
@[go_sem] theorem Dn {b : Code} {Q : kE} {s : List AV} {h : List Blk} : Ai P call n b Q .ret s h = Q .ret s h := rfl
@[go_sem] theorem zI {id : Nat} {Q : kE} {s : List AV} {h : List Blk} : nH id Q .normal s h = Q .normal s h := rfl
@[go_sem] theorem B4 {id : Nat} {Q : kE} {s : List AV} {h : List Blk} : nH id Q .ret s h = Q .ret s h := rfl
@[go_sem] theorem AE {id i : Nat} {Q : kE} {s : List AV} {h : List Blk} : nH id Q (.exit i) s h = if i = id then Q .normal s h else Q (.exit i) s h := by
 unfold nH; by_cases e : i = id <;> simp [e]
@[go_sem] theorem Eb {a b : Code} {x : AV} {s : List AV} {h : List Blk} {Q : kE} : EV P call n (.seq a b) (x :: s) h Q = EV P call n a (x :: s) h (Ai P call n b Q) := by
 apply propext
 unfold EV
 simp only [evalCode]
 constructor
 · rintro ⟨y, st', e, hq⟩
   split at e
   · rename_i st'' e1; exact ⟨_, _, e1, ⟨y, st', e, hq⟩⟩
   · rename_i hne
     refine ⟨y, st', e, ?_⟩
     cases y with
     | normal => exact (hne _ e).elim
     | _ => exact hq
 · rintro ⟨y, st', e, hq⟩
   rw [e]
   cases y with
   | normal => exact hq
   | _ => exact ⟨_, _, rfl, hq⟩
@[go_sem] theorem CK {id : Nat} {c : Code} {x : AV} {s : List AV} {h : List Blk} {Q : kE} : EV P call n (.block id c) (x :: s) h Q = EV P call n c (x :: s) h (nH id Q) := by
 apply propext
 unfold EV
 simp only [evalCode]
 constructor
 · rintro ⟨y, st', e, hq⟩
   split at e
   · rename_i i st'' e1
     refine ⟨_, _, e1, ?_⟩
     unfold nH
     split at e
     · rename_i hd; simp only [hd]; cases e; exact hq
     · rename_i hd; simp only [hd]; cases e; exact hq
   · rename_i hne
     refine ⟨y, st', e, ?_⟩
     cases y with
     | exit i => exact (hne _ _ e).elim
     | _ => exact hq
 · rintro ⟨y, st', e, hq⟩
   rw [e]
   cases y with
   | exit i =>
    unfold nH at hq
    dsimp only at hq ⊢
    split at hq
    · rename_i hd; simp only [hd]; exact ⟨_, _, rfl, hq⟩
    · rename_i hd; simp only [hd]; exact ⟨_, _, rfl, hq⟩
   | _ => exact ⟨_, _, rfl, hq⟩
@[go_sem] theorem Dv {c : Operand} {a b : Code} {x : AV} {s : List AV} {h : List Blk} {Q : kE} : EV P call n (.cond c a b) (x :: s) h Q = EVC (evA (x :: s) c) (fun s h => EV P call n a s h Q) (fun s h => EV P call n b s h Q) (x :: s) h := by
 apply propext
 unfold EV EVC
 simp only [evalCode]
 split
 · rename_i e; rw [e]
 · rename_i e; rw [e]
 · simp_all
@[go_sem] theorem B5 {i : Nat} {ops : Array Oper} {x : AV} {s : List AV} {h : List Blk} {Q : kE} : EV P call n (.region i ops false) (x :: s) h Q = EVO P call ops.toList ops.toList (x :: s) h (fun s' h' => Q .normal s' h') := by
 apply propext
 unfold EV EVO
 simp only [evalCode, gC]
 constructor
 · rintro ⟨y, st', e, hq⟩
   split at e
   · rename_i st'' e1; cases e; exact ⟨_, e1, hq⟩
   · cases e
 · rintro ⟨st', e, hq⟩
   rw [e]; exact ⟨_, _, rfl, hq⟩
def pB (ops : List Oper) (es : List Ent) : Bool := lF ops 0 && kC ops (oa [] ops) es es 0
@[go_sem] theorem BC {i : Nat} {ops : Array Oper} {x : AV} {s : List AV} {h : List Blk} {Q : kE} : EV P call n (.region i ops true) (x :: s) h Q = EVT P call ops.toList ops.toList (x :: s) h (fun s' h' es => pB ops.toList es = true /\ Q .normal s' h') := by
 apply propext
 unfold EV EVT
 simp only [evalCode, gC]
 constructor
 · rintro ⟨y, st', e, hq⟩
   split at e
   · rename_i st'' e1
     split at e1
     · rename_i st3 es e2
       split at e1
       · rename_i hd; cases e1; cases e; exact ⟨_, _, e2, hd, hq⟩
       · cases e1
     · cases e1
   · cases e
 · rintro ⟨st', es, e, hd, hq⟩
   rw [e]
   unfold pB at hd
   simp only [hd]
   exact ⟨_, _, rfl, hq⟩
@[go_sem] theorem Du {ops : List Oper} {s : List AV} {h : List Blk} {K : List AV -> List Blk -> Prop} : EVO P call ops [] s h K = K s h := by
 apply propext
 unfold EVO
 simp only [e9]
 constructor
 · rintro ⟨st', e, hq⟩; cases e; exact hq
 · intro hq; exact ⟨_, rfl, hq⟩
theorem lD {ops : List Oper} {o : Oper} {s : List AV} {h : List Blk} (hw : cE ops o s = some true) {K : St -> Prop} :
  (∃ st', (∃ e, gP P call ops o ⟨s, h⟩ = some (st', e)) /\ K st') ↔ EVP call (evalOp P (evA s) h h.length o) o.dst s h (fun s' h' => K ⟨s', h'⟩) := by
 unfold gP EVP
 simp only [hw, dz]
 cases evalOp P (evA s) h h.length o with
 | none => simp
 | some r =>
  cases r with
  | pure v => simp only; constructor; (rintro ⟨st', ⟨e, he⟩, hk⟩; cases he; exact hk); (intro hk; exact ⟨_, ⟨_, rfl⟩, hk⟩)
  | eff v ws => simp only; constructor; (rintro ⟨st', ⟨e, he⟩, hk⟩; cases he; exact hk); (intro hk; exact ⟨_, ⟨_, rfl⟩, hk⟩)
  | call f args =>
   simp only [EVK]
   cases call f args h with
   | none => simp
   | some r =>
    cases r with
    | loc v ws rd n => simp only; constructor; (rintro ⟨st', ⟨e, he⟩, hk⟩; cases he; exact hk); (intro hk; exact ⟨_, ⟨_, rfl⟩, hk⟩)
    | whole v H => simp only; constructor; (rintro ⟨st', ⟨e, he⟩, hk⟩; cases he; exact hk); (intro hk; exact ⟨_, ⟨_, rfl⟩, hk⟩)
theorem vg {ops : List Oper} {o : Oper} {s : List AV} {h : List Blk} (hw : cE ops o s = some false) {K : St -> Prop} :
  (∃ st', (∃ e, gP P call ops o ⟨s, h⟩ = some (st', e)) /\ K st') ↔ K ⟨eS s o.dst (.at undef), h⟩ := by
 unfold gP
 simp only [hw, dz]
 constructor
 · rintro ⟨st', ⟨e, he⟩, hk⟩; cases he; exact hk
 · intro hk; exact ⟨_, ⟨_, rfl⟩, hk⟩
theorem iJ {ops : List Oper} {o : Oper} {rest : List Oper} {s : List AV} {h : List Blk} {K : List AV -> List Blk -> Prop} :
  EVO P call ops (o :: rest) s h K ↔ ∃ st', (∃ e, gP P call ops o ⟨s, h⟩ = some (st', e)) /\ EVO P call ops rest st'.slots st'.heap K := by
 unfold EVO
 simp only [e9]
 constructor
 · rintro ⟨st', e, hq⟩
   split at e
   · rename_i st'' en e1; exact ⟨st'', ⟨en, e1⟩, st', e, hq⟩
   · cases e
 · rintro ⟨st'', ⟨en, e1⟩, st', e, hq⟩
   rw [e1]; exact ⟨st', e, hq⟩
@[go_sem] theorem Cr {ops : List Oper} {dst : Option Tmp} {op : Op} {ty : TypeId} {pos : String} {after : Array Edge} {rest : List Oper} {x : AV} {s : List AV} {h : List Blk} {K : List AV -> List Blk -> Prop} :
  EVO P call ops (⟨dst, op, ty, pos, after, none⟩ :: rest) (x :: s) h K = EVP call (evalOp P (evA (x :: s)) h h.length ⟨dst, op, ty, pos, after, none⟩) dst (x :: s) h (fun s' h' => EVO P call ops rest s' h' K) :=
 propext (iJ.trans (lD rfl (K := fun st => EVO P call ops rest st.slots st.heap K)))
end
end Go.Eng

