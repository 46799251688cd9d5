import Derived.Test.YtecdcgfclgmbpaaGreatEng14Apas
set_option linter.all false
namespace Go.Eng
open Go Go.RowKit
variable [Dr]
section
variable {P : Program}
noncomputable def vf (P : Program) (call : dz) (n : Nat) (fn : Func) (args : List AV) : Option AV :=
 match om P call n fn args [] with
 | some (r, G) => (match iZ G (fun _ => true) n r with | some j => (match mf j with | [] => some j | _ => none) | none => none)
 | none => none
theorem wK (D : rB P) (hm : P.follows .mixedOrders = true) {call : dz} (q : fP P call) {n : Nat} {f : FuncId} {fn : Func} (T : P.funcs[f]? = some fn) {args : List AV} {r : AV} (h : vf P call n fn args = some r)
  (out : Nat -> Prop) (w : World) (vs : List Value) (j : ∀ b, out b -> b < w.heap.size) (ha : RvL w out [] args vs) :
  Calls P f vs.toArray w fun e w' => ∃ u, e = .returned u /\ Ext (Lo w.heap.size) w w' out out [] [] /\ Rv w' out [] r u := by
 unfold vf at h
 split at h
 · rename_i r0 G E
   split at h
   · rename_i r' I
     split at h
     · cases h
       have J : Inv out (Lo w.heap.size) w [] [] := ⟨rfl, fun _ h => h, j, by simp, by simp, by simp⟩
       refine (ke D hm q T E J (by rw [js]; exact ha)).mono ?_
       rintro e w' ⟨u, π', rfl, m, O, U⟩
       rw [js] at m
       refine ⟨u, rfl, ⟨m.low, m.size, fun b hb M => ⟨m.low b hb, M⟩, by simp, m.os, m.tape, m.output, m.drawn⟩, ?_⟩
       have Y : wH w' (aJ out π' G) out π' G (fun _ => true) := by
        intro b p cs _ C hp
        refine ⟨fC O C hp, fun ho => ?_⟩
        have z : ∃ y, G[b]? = some y /\ y.isLive = true := by rcases C with h | h <;> exact ⟨_, h, rfl⟩
        obtain ⟨y, hy, N⟩ := z
        exact (O.base b y p hy hp N).1 (j _ ho)
       exact nq Y (fun b hb => .inl hb) n r0 r u U I
     · cases h
   · cases h
 · cases h
noncomputable def Be : Value -> Value -> Bool
 | .bool a, .bool b => a == b
 | .int k a, .int l b => IntKind.rO k l && decide (a = b)
 | .string a, .string b => decide (a = b)
 | .slice none 0 0, .slice none 0 0 => true
 | .pointer none, .pointer none => true
 | .nilFunc, .nilFunc => true
 | _, _ => false
theorem CM {a b : Value} (h : Be a b = true) : a = b := by
 unfold Be at h
 split at h
 · simp_all
 · simp only [Bool.and_eq_true, decide_eq_true_eq] at h
   rw [IntKind.mz h.1, h.2]
 · simp_all
 · rfl
 · rfl
 · rfl
 · cases h
mutual
noncomputable def AVB : AV -> AV -> Bool
 | .at a, .at b => Be a b
 | .sl nl cs len, .sl q cs' j => nl == q && decide (len = j) && tR cs cs'
 | .agg cs, .agg cs' => tR cs cs'
 | .fn f C cs, .fn D z cs' => decide (f = D) && tR C z && tR cs cs'
 | .pp cs off, .pp cs' m => decide (off = m) && tR cs cs'
 | _, _ => false
noncomputable def tR : List AV -> List AV -> Bool
 | [], [] => true
 | a :: as, b :: j => AVB a b && tR as j
 | _, _ => false
end
mutual
theorem Gp : (a b : AV) -> AVB a b = true -> a = b
 | .at a, y, h => by cases y <;> simp only [AVB] at h <;> first | (cases h; done) | rw [CM h]
 | .sl nl cs len, y, h => by
  cases y <;> simp only [AVB] at h <;> first | (cases h; done) | skip
  simp only [Bool.and_eq_true, decide_eq_true_eq, beq_iff_eq] at h
  rw [h.1.1, h.1.2, mv _ _ h.2]
 | .agg cs, y, h => by cases y <;> simp only [AVB] at h <;> first | (cases h; done) | rw [mv _ _ h]
 | .fn f j cs, y, h => by
  cases y <;> simp only [AVB] at h <;> first | (cases h; done) | skip
  simp only [Bool.and_eq_true, decide_eq_true_eq] at h
  rw [h.1.1, mv _ _ h.1.2, mv _ _ h.2]
 | .pp cs off, y, h => by
  cases y <;> simp only [AVB] at h <;> first | (cases h; done) | skip
  simp only [Bool.and_eq_true, decide_eq_true_eq] at h
  rw [h.1, mv _ _ h.2]
 | .unk, y, h => by simp [AVB] at h
 | .hs .., y, h => by simp [AVB] at h
 | .hp .., y, h => by simp [AVB] at h
 | .mp _, y, h => by simp [AVB] at h
 | .tup _, y, h => by simp [AVB] at h
theorem mv : (a b : List AV) -> tR a b = true -> a = b
 | [], [], _ => rfl
 | [], _ :: _, h => by simp [tR] at h
 | _ :: _, [], h => by simp [tR] at h
 | a :: as, b :: j, h => by
  simp only [tR, Bool.and_eq_true] at h
  rw [Gp a b h.1, mv as j h.2]
end
structure Row where
 f : FuncId
 args : List AV
 r : AV
end
instance drF : Dr := ⟨false⟩
end Go.Eng


namespace Go.Eng
open Go Go.RowKit
variable [Dr]
abbrev nV := X -> List AV -> List Blk -> Prop
def EV (P : Program) (call : dz) (n : Nat) (c : Code) (s : List AV) (h : List Blk) (Q : nV) : Prop := ∃ x st', evalCode P call n c ⟨s, h⟩ = some (x, st') /\ Q x st'.slots st'.heap
def EVO (P : Program) (call : dz) (ops rest : List Oper) (s : List AV) (h : List Blk) (K : List AV -> List Blk -> Prop) : Prop := ∃ st', ga P call ops rest ⟨s, h⟩ = some st' /\ K st'.slots st'.heap
def EVT (P : Program) (call : dz) (ops rest : List Oper) (s : List AV) (h : List Blk) (K : List AV -> List Blk -> List Ent -> Prop) : Prop := ∃ st' es, fq P call ops rest ⟨s, h⟩ = some (st', es) /\ K st'.slots st'.heap es
def EVK (r : Option tk) (dst : Option Tmp) (s : List AV) (h : List Blk) (K : List AV -> List Blk -> Prop) : Prop :=
 match r with
 | some (.loc v ws _ n) => K (fS s dst v) (aM (h ++ gN n) ws)
 | some (.whole v H) => K (fS s dst v) H
 | none => False
def EVP (call : dz) (r : Option bs) (dst : Option Tmp) (s : List AV) (h : List Blk) (K : List AV -> List Blk -> Prop) : Prop :=
 match r with
 | some (.pure v) => K (fS s dst v) h
 | some (.eff v ws) => K (fS s dst v) (aM h ws)
 | some (.call f args) => EVK (call f args h) dst s h K
 | none => False
abbrev SH := List AV -> List Blk -> Prop
def EVC (v : AV) (A B : SH) (s : List AV) (h : List Blk) : Prop := match v with | .at (.bool true) => A s h | .at (.bool false) => B s h | _ => False
def Fs (P : Program) (call : dz) (n : Nat) (b : Code) (Q : nV) : nV := fun x s h => match x with | .normal => EV P call n b s h Q | x => Q x s h
def rJ (id : Nat) (Q : nV) : nV := fun x s h => match x with | .exit i => (match decide (i = id) with | true => Q .normal s h | false => Q (.exit i) s h) | x => Q x s h
section
variable {P : Program} {call : dz} {n : Nat}
@[congr] theorem G3 {c : Code} {s s' : List AV} {h h' : List Blk} {Q : nV} (e1 : s = s') (e2 : h = h') : EV P call n c s h Q = EV P call n c s' h' Q := by rw [e1, e2]
@[congr] theorem GZ {ops rest : List Oper} {s s' : List AV} {h h' : List Blk} {K : List AV -> List Blk -> Prop} (e1 : s = s') (e2 : h = h') : EVO P call ops rest s h K = EVO P call ops rest s' h' K := by rw [e1, e2]
@[congr] theorem GV {ops rest : List Oper} {s s' : List AV} {h h' : List Blk} {K : List AV -> List Blk -> List Ent -> Prop} (e1 : s = s') (e2 : h = h') : EVT P call ops rest s h K = EVT P call ops rest s' h' K := by rw [e1, e2]
@[congr] theorem GX {r r' : Option bs} {dst : Option Tmp} {s s' : List AV} {h h' : List Blk} {K : List AV -> List Blk -> Prop} (e0 : r = r') (e1 : s = s') (e2 : h = h') : EVP call r dst s h K = EVP call r' dst s' h' K := by rw [e0, e1, e2]
@[congr] theorem GS {r r' : Option tk} {dst : Option Tmp} {s s' : List AV} {h h' : List Blk} {K : List AV -> List Blk -> Prop} (e0 : r = r') (e1 : s = s') (e2 : h = h') : EVK r dst s h K = EVK r' dst s' h' K := by rw [e0, e1, e2]
@[go_sem] theorem HM {v : AV} {dst : Option Tmp} {s : List AV} {h : List Blk} {K : List AV -> List Blk -> Prop} : EVP call (some (.pure v)) dst s h K = K (fS s dst v) h := rfl
@[go_sem] theorem HS {v : AV} {ws : List (Nat × Blk)} {dst : Option Tmp} {s : List AV} {h : List Blk} {K : List AV -> List Blk -> Prop} : EVP call (some (.eff v ws)) dst s h K = K (fS s dst v) (aM h ws) := rfl
@[go_sem] theorem Ek {f : FuncId} {args : List AV} {dst : Option Tmp} {s : List AV} {h : List Blk} {K : List AV -> List Blk -> Prop} : EVP call (some (.call f args)) dst s h K = EVK (call f args h) dst s h K := rfl
@[go_sem] theorem HT {v : AV} {ws : List (Nat × Blk)} {rd : List Nat} {m : Nat} {dst : Option Tmp} {s : List AV} {h : List Blk} {K : List AV -> List Blk -> Prop} : EVK (some (.loc v ws rd m)) dst s h K = K (fS s dst v) (aM (h ++ gN m) ws) := rfl
@[go_sem] theorem GR {v : AV} {H : List Blk} {dst : Option Tmp} {s : List AV} {h : List Blk} {K : List AV -> List Blk -> Prop} : EVK (some (.whole v H)) dst s h K = K (fS s dst v) H := rfl
@[go_sem] theorem Io {A B : SH} {s : List AV} {h : List Blk} : EVC (.at (.bool true)) A B s h = A s h := rfl
@[go_sem] theorem Iu {A B : SH} {s : List AV} {h : List Blk} : EVC (.at (.bool false)) A B s h = B s h := rfl
@[go_sem] theorem HV {s : List AV} {h : List Blk} {Q : nV} : EV P call n .skip s h Q = Q .normal s h := by
 apply propext; constructor
 · rintro ⟨x, st', e, hq⟩; simp only [evalCode, Option.some.injEq, Prod.mk.injEq] at e; obtain ⟨rfl, rfl⟩ := e; exact hq
 · intro hq; exact ⟨_, _, rfl, hq⟩
@[go_sem] theorem Hm {s : List AV} {h : List Blk} {i : Nat} {Q : nV} : EV P call n (.label i) s h Q = Q .normal s h := by
 apply propext; constructor
 · rintro ⟨x, st', e, hq⟩; simp only [evalCode, Option.some.injEq, Prod.mk.injEq] at e; obtain ⟨rfl, rfl⟩ := e; exact hq
 · intro hq; exact ⟨_, _, rfl, hq⟩
@[go_sem] theorem HW {s : List AV} {h : List Blk} {Q : nV} : EV P call n .ret s h Q = Q .ret s h := by
 apply propext; constructor
 · rintro ⟨x, st', e, hq⟩; simp only [evalCode, Option.some.injEq, Prod.mk.injEq] at e; obtain ⟨rfl, rfl⟩ := e; exact hq
 · intro hq; exact ⟨_, _, rfl, hq⟩
@[go_sem] theorem HQ {s : List AV} {h : List Blk} {i : Nat} {Q : nV} : EV P call n (.exit i) s h Q = Q (.exit i) s h := by
 apply propext; constructor
 · rintro ⟨x, st', e, hq⟩; simp only [evalCode, Option.some.injEq, Prod.mk.injEq] at e; obtain ⟨rfl, rfl⟩ := e; exact hq
 · intro hq; exact ⟨_, _, rfl, hq⟩
@[go_sem] theorem Fz {b : Code} {Q : nV} {s : List AV} {h : List Blk} : Fs P call n b Q .normal s h = EV P call n b s h Q := rfl
@[go_sem] theorem GU {b : Code} {Q : nV} {s : List AV} {h : List Blk} {i : Nat} : Fs P call n b Q (.exit i) s h = Q (.exit i) s h := rfl
@[go_sem] theorem HG {b : Code} {Q : nV} {s : List AV} {h : List Blk} : Fs P call n b Q .ret s h = Q .ret s h := rfl
@[go_sem] theorem Es {id : Nat} {Q : nV} {s : List AV} {h : List Blk} : rJ id Q .normal s h = Q .normal s h := rfl
@[go_sem] theorem Gy {id : Nat} {Q : nV} {s : List AV} {h : List Blk} : rJ id Q .ret s h = Q .ret s h := rfl
@[go_sem] theorem FP {id i : Nat} {Q : nV} {s : List AV} {h : List Blk} : rJ id Q (.exit i) s h = if i = id then Q .normal s h else Q (.exit i) s h := by
 unfold rJ; by_cases e : i = id <;> simp [e]
@[go_sem] theorem Ic {a b : Code} {x : AV} {s : List AV} {h : List Blk} {Q : nV} : EV P call n (.seq a b) (x :: s) h Q = EV P call n a (x :: s) h (Fs P call n b Q) := by
 apply propext
 unfold EV
 simp only [evalCode]
 constructor
 · rintro ⟨y, st', e, hq⟩
   split at e
   · rename_i st'' e1; exact ⟨_, _, e1, ⟨y, st', e, hq⟩⟩
   · rename_i hne
     refine ⟨y, st', e, ?_⟩
     cases y with
     | normal => exact (hne _ e).elim
     | _ => exact hq
 · rintro ⟨y, st', e, hq⟩
   rw [e]
   cases y with
   | normal => exact hq
   | _ => exact ⟨_, _, rfl, hq⟩
@[go_sem] theorem Hh {id : Nat} {c : Code} {x : AV} {s : List AV} {h : List Blk} {Q : nV} : EV P call n (.block id c) (x :: s) h Q = EV P call n c (x :: s) h (rJ id Q) := by
 apply propext
 unfold EV
 simp only [evalCode]
 constructor
 · rintro ⟨y, st', e, hq⟩
   split at e
   · rename_i i st'' e1
     refine ⟨_, _, e1, ?_⟩
     unfold rJ
     split at e
     · rename_i hd; simp only [hd]; cases e; exact hq
     · rename_i hd; simp only [hd]; cases e; exact hq
   · rename_i hne
     refine ⟨y, st', e, ?_⟩
     cases y with
     | exit i => exact (hne _ _ e).elim
     | _ => exact hq
 · rintro ⟨y, st', e, hq⟩
   rw [e]
   cases y with
   | exit i =>
    unfold rJ at hq
    dsimp only at hq ⊢
    split at hq
    · rename_i hd; simp only [hd]; exact ⟨_, _, rfl, hq⟩
    · rename_i hd; simp only [hd]; exact ⟨_, _, rfl, hq⟩
   | _ => exact ⟨_, _, rfl, hq⟩
@[go_sem] theorem HR {c : Operand} {a b : Code} {x : AV} {s : List AV} {h : List Blk} {Q : nV} : EV P call n (.cond c a b) (x :: s) h Q = EVC (evA (x :: s) c) (fun s h => EV P call n a s h Q) (fun s h => EV P call n b s h Q) (x :: s) h := by
 apply propext
 unfold EV EVC
 simp only [evalCode]
 split
 · rename_i e; rw [e]
 · rename_i e; rw [e]
 · simp_all
@[go_sem] theorem GW {i : Nat} {ops : Array Oper} {x : AV} {s : List AV} {h : List Blk} {Q : nV} : EV P call n (.region i ops false) (x :: s) h Q = EVO P call ops.toList ops.toList (x :: s) h (fun s' h' => Q .normal s' h') := by
 apply propext
 unfold EV EVO
 simp only [evalCode, ja]
 constructor
 · rintro ⟨y, st', e, hq⟩
   split at e
   · rename_i st'' e1; cases e; exact ⟨_, e1, hq⟩
   · cases e
 · rintro ⟨st', e, hq⟩
   rw [e]; exact ⟨_, _, rfl, hq⟩
def uc (ops : List Oper) (es : List Ent) : Bool := po ops 0 && nu ops (rQ [] ops) es es 0
@[go_sem] theorem GI {i : Nat} {ops : Array Oper} {x : AV} {s : List AV} {h : List Blk} {Q : nV} : EV P call n (.region i ops true) (x :: s) h Q = EVT P call ops.toList ops.toList (x :: s) h (fun s' h' es => uc ops.toList es = true /\ Q .normal s' h') := by
 apply propext
 unfold EV EVT
 simp only [evalCode, ja]
 constructor
 · rintro ⟨y, st', e, hq⟩
   split at e
   · rename_i st'' e1
     split at e1
     · rename_i st3 es e2
       split at e1
       · rename_i hd; cases e1; cases e; exact ⟨_, _, e2, hd, hq⟩
       · cases e1
     · cases e1
   · cases e
 · rintro ⟨st', es, e, hd, hq⟩
   rw [e]
   unfold uc at hd
   simp only [hd]
   exact ⟨_, _, rfl, hq⟩
@[go_sem] theorem HU {ops : List Oper} {s : List AV} {h : List Blk} {K : List AV -> List Blk -> Prop} : EVO P call ops [] s h K = K s h := by
 apply propext
 unfold EVO
 simp only [ga]
 constructor
 · rintro ⟨st', e, hq⟩; cases e; exact hq
 · intro hq; exact ⟨_, rfl, hq⟩
theorem pg {ops : List Oper} {o : Oper} {s : List AV} {h : List Blk} (hw : cS ops o s = some true) {K : St -> Prop} :
  (∃ st', (∃ e, jr P call ops o ⟨s, h⟩ = some (st', e)) /\ K st') ↔ EVP call (evalOp P (evA s) h h.length o) o.dst s h (fun m q => K ⟨m, q⟩) := by
 unfold jr EVP
 simp only [hw, dY]
 cases evalOp P (evA s) h h.length o with
 | none => simp
 | some r =>
  cases r with
  | pure v => simp only; constructor; (rintro ⟨st', ⟨e, he⟩, j⟩; cases he; exact j); (intro j; exact ⟨_, ⟨_, rfl⟩, j⟩)
  | eff v ws => simp only; constructor; (rintro ⟨st', ⟨e, he⟩, j⟩; cases he; exact j); (intro j; exact ⟨_, ⟨_, rfl⟩, j⟩)
  | call f args =>
   simp only [EVK]
   cases call f args h with
   | none => simp
   | some r =>
    cases r with
    | loc v ws rd n => simp only; constructor; (rintro ⟨st', ⟨e, he⟩, j⟩; cases he; exact j); (intro j; exact ⟨_, ⟨_, rfl⟩, j⟩)
    | whole v H => simp only; constructor; (rintro ⟨st', ⟨e, he⟩, j⟩; cases he; exact j); (intro j; exact ⟨_, ⟨_, rfl⟩, j⟩)
theorem Ah {ops : List Oper} {o : Oper} {s : List AV} {h : List Blk} (hw : cS ops o s = some false) {K : St -> Prop} :
  (∃ st', (∃ e, jr P call ops o ⟨s, h⟩ = some (st', e)) /\ K st') ↔ K ⟨fS s o.dst (.at undef), h⟩ := by
 unfold jr
 simp only [hw, dY]
 constructor
 · rintro ⟨st', ⟨e, he⟩, j⟩; cases he; exact j
 · intro j; exact ⟨_, ⟨_, rfl⟩, j⟩
theorem ks {ops : List Oper} {o : Oper} {rest : List Oper} {s : List AV} {h : List Blk} {K : List AV -> List Blk -> Prop} :
  EVO P call ops (o :: rest) s h K ↔ ∃ st', (∃ e, jr P call ops o ⟨s, h⟩ = some (st', e)) /\ EVO P call ops rest st'.slots st'.heap K := by
 unfold EVO
 simp only [ga]
 constructor
 · rintro ⟨st', e, m⟩
   split at e
   · rename_i j q e1; exact ⟨j, ⟨q, e1⟩, st', e, m⟩
   · cases e
 · rintro ⟨j, ⟨q, e1⟩, st', e, m⟩
   rw [e1]; exact ⟨st', e, m⟩
@[go_sem] theorem Hn {ops : List Oper} {dst : Option Tmp} {op : Op} {ty : TypeId} {pos : String} {after : Array Edge} {rest : List Oper} {x : AV} {s : List AV} {h : List Blk} {K : List AV -> List Blk -> Prop} :
  EVO P call ops (⟨dst, op, ty, pos, after, none⟩ :: rest) (x :: s) h K = EVP call (evalOp P (evA (x :: s)) h h.length ⟨dst, op, ty, pos, after, none⟩) dst (x :: s) h (fun s' h' => EVO P call ops rest s' h' K) :=
 propext (ks.trans (pg rfl (K := fun st => EVO P call ops rest st.slots st.heap K)))
end
end Go.Eng

