/- The engine, part 17: drawn regions, loops, calls, and a function's contract from its steps. -/
import Derived.Test.YtlajgmapmocpbaaGreatEng16e
set_option linter.unusedSimpArgs false
set_option linter.unusedVariables false
namespace Go.Eng
open Go Go.RowKit

section
variable {P : Program} {call : CallF} {n : Nat}

/-! Regions that draw. -/
def EVPT (call : CallF) (r : Option ORes) (rd : List Nat) (o : Oper) (s : List AV) (h : List Blk) (K : List AV → List Blk → Ent → Prop) : Prop :=
  match r with
  | some (.pure v) => K (putA s o.dst v) h ⟨o, h.length, v, [], rd, 0⟩
  | some (.eff v ws) => K (putA s o.dst v) (updAll h ws) ⟨o, h.length, v, ws, rd, 0⟩
  | some (.call f args) => (match call f args h with
    | some (.loc v ws rd n) => K (putA s o.dst v) (updAll (h ++ deads n) ws) ⟨o, h.length, v, ws, rd, n⟩
    | _ => False)
  | none => False
def EVKT (r : Option CRes) (o : Oper) (s : List AV) (h : List Blk) (K : List AV → List Blk → Ent → Prop) : Prop :=
  match r with
  | some (.loc v ws rd n) => K (putA s o.dst v) (updAll (h ++ deads n) ws) ⟨o, h.length, v, ws, rd, n⟩
  | _ => False
@[congr] theorem EVPT_congr {r r' : Option ORes} {rd rd' : List Nat} {o : Oper} {s s' : List AV} {h h' : List Blk} {K : List AV → List Blk → Ent → Prop} (e0 : r = r') (e1 : s = s') (e2 : h = h') (e3 : rd = rd') : EVPT call r rd o s h K = EVPT call r' rd' o s' h' K := by rw [e0, e1, e2, e3]
@[congr] theorem EVKT_congr {r r' : Option CRes} {o : Oper} {s s' : List AV} {h h' : List Blk} {K : List AV → List Blk → Ent → Prop} (e0 : r = r') (e1 : s = s') (e2 : h = h') : EVKT r o s h K = EVKT r' o s' h' K := by rw [e0, e1, e2]
@[go_sem] theorem EVPT_pure {v : AV} {rd : List Nat} {o : Oper} {s : List AV} {h : List Blk} {K : List AV → List Blk → Ent → Prop} : EVPT call (some (.pure v)) rd o s h K = K (putA s o.dst v) h ⟨o, h.length, v, [], rd, 0⟩ := rfl
@[go_sem] theorem EVPT_eff {v : AV} {ws : List (Nat × Blk)} {rd : List Nat} {o : Oper} {s : List AV} {h : List Blk} {K : List AV → List Blk → Ent → Prop} : EVPT call (some (.eff v ws)) rd o s h K = K (putA s o.dst v) (updAll h ws) ⟨o, h.length, v, ws, rd, 0⟩ := rfl
@[go_sem] theorem EVPT_call {f : FuncId} {args : List AV} {rd : List Nat} {o : Oper} {s : List AV} {h : List Blk} {K : List AV → List Blk → Ent → Prop} : EVPT call (some (.call f args)) rd o s h K = EVKT (call f args h) o s h K := by
  unfold EVPT EVKT; rfl
@[go_sem] theorem EVKT_loc {v : AV} {ws : List (Nat × Blk)} {rd : List Nat} {m : Nat} {o : Oper} {s : List AV} {h : List Blk} {K : List AV → List Blk → Ent → Prop} : EVKT (some (.loc v ws rd m)) o s h K = K (putA s o.dst v) (updAll (h ++ deads m) ws) ⟨o, h.length, v, ws, rd, m⟩ := rfl

@[go_sem] theorem EVT_nil {ops : List Oper} {s : List AV} {h : List Blk} {K : List AV → List Blk → List Ent → Prop} : EVT P call ops [] s h K = K s h [] := by
  apply propext
  unfold EVT
  simp only [traceOps]
  constructor
  · rintro ⟨st', es, e, hq⟩; cases e; exact hq
  · intro hq; exact ⟨_, _, rfl, hq⟩
theorem EVT_cons_iff {ops : List Oper} {o : Oper} {rest : List Oper} {s : List AV} {h : List Blk} {K : List AV → List Blk → List Ent → Prop} :
    EVT P call ops (o :: rest) s h K ↔ ∃ st' e, stepA P call ops o ⟨s, h⟩ = some (st', some e) ∧ entOk h.length e = true ∧ EVT P call ops rest st'.slots st'.heap (fun s h es => K s h (e :: es)) := by
  unfold EVT
  simp only [traceOps]
  constructor
  · rintro ⟨st', es, e, hq⟩
    split at e
    · rename_i st'' en e1
      split at e
      · rename_i st3 es3 e2 e3; cases e; exact ⟨st'', en, e1, e2, _, _, e3, hq⟩
      · cases e
    · cases e
  · rintro ⟨st'', en, e1, e2, st3, es3, e3, hq⟩
    simp only [e1, e2]
    rw [e3]
    exact ⟨_, _, rfl, hq⟩
@[go_sem] theorem EVT_cons {ops : List Oper} {dst : Option Tmp} {op : Op} {ty : TypeId} {pos : String} {after : Array Edge} {rest : List Oper} {x : AV} {s : List AV} {h : List Blk} {K : List AV → List Blk → List Ent → Prop} :
    EVT P call ops (⟨dst, op, ty, pos, after, none⟩ :: rest) (x :: s) h K = EVPT call (evalOp P (evA (x :: s)) h h.length ⟨dst, op, ty, pos, after, none⟩) (readsOf (evA (x :: s)) ⟨dst, op, ty, pos, after, none⟩) ⟨dst, op, ty, pos, after, none⟩ (x :: s) h
      (fun s' h' e => entOk h.length e = true ∧ EVT P call ops rest s' h' (fun s'' h'' es => K s'' h'' (e :: es))) := by
  apply propext
  refine EVT_cons_iff.trans ?_
  unfold stepA EVPT
  have hw : wantedA ops ⟨dst, op, ty, pos, after, none⟩ (x :: s) = some true := rfl
  simp only [hw, putK_eq]
  cases evalOp P (evA (x :: s)) h h.length ⟨dst, op, ty, pos, after, none⟩ with
  | none => simp
  | some r =>
    cases r with
    | pure v => simp only; constructor; (rintro ⟨st', e, he, hk⟩; cases he; exact hk); (intro hk; exact ⟨_, _, rfl, hk⟩)
    | eff v ws => simp only; constructor; (rintro ⟨st', e, he, hk⟩; cases he; exact hk); (intro hk; exact ⟨_, _, rfl, hk⟩)
    | call f args =>
      simp only
      cases call f args h with
      | none => simp
      | some r =>
        cases r with
        | loc v ws rd n => simp only; constructor; (rintro ⟨st', e, he, hk⟩; cases he; exact hk); (intro hk; exact ⟨_, _, rfl, hk⟩)
        | whole v H => simp

/-! Loops. -/
def loopQ (I : Nat → List AV → List Blk → Prop) (k : Nat) (Q : Post) : Post := fun x s h => match x with | .normal => ∃ k', k' < k ∧ I k' s h | x => Q x s h
@[go_sem] theorem loopQ_normal {I : Nat → List AV → List Blk → Prop} {k : Nat} {Q : Post} {s : List AV} {h : List Blk} : loopQ I k Q .normal s h = ∃ k', k' < k ∧ I k' s h := rfl
@[go_sem] theorem loopQ_ret {I : Nat → List AV → List Blk → Prop} {k : Nat} {Q : Post} {s : List AV} {h : List Blk} : loopQ I k Q .ret s h = Q .ret s h := rfl
@[go_sem] theorem loopQ_exit {I : Nat → List AV → List Blk → Prop} {k i : Nat} {Q : Post} {s : List AV} {h : List Blk} : loopQ I k Q (.exit i) s h = Q (.exit i) s h := rfl

theorem EV_loop {c : Code} {s : List AV} {h : List Blk} {Q : Post} (I : Nat → List AV → List Blk → Prop) (m : Nat) (hm : m < n) (h0 : I m s h) (hstep : ∀ k s h, I k s h → EV P call n c s h (loopQ I k Q)) : EV P call n (.loop c) s h Q := by
  have key : ∀ (N k : Nat) (s : List AV) (h : List Blk), k < N → I k s h → ∃ x st', iter (evalCode P call n c) N ⟨s, h⟩ = some (x, st') ∧ Q x st'.slots st'.heap := by
    intro N
    induction N with
    | zero => intro k s h hk; omega
    | succ N ih =>
      intro k s h hk hI
      obtain ⟨x, st', e, hq⟩ := hstep k s h hI
      simp only [iter, e]
      cases x with
      | normal =>
        obtain ⟨k', hk', hI'⟩ := hq
        exact ih k' st'.slots st'.heap (by omega) hI'
      | exit i => exact ⟨_, _, rfl, hq⟩
      | ret => exact ⟨_, _, rfl, hq⟩
  obtain ⟨x, st', e, hq⟩ := key n m s h hm h0
  exact ⟨x, st', by simp only [evalCode]; exact e, hq⟩

theorem EV.mono {c : Code} {s : List AV} {h : List Blk} {Q Q' : Post} (hE : EV P call n c s h Q) (hQ : ∀ x s h, Q x s h → Q' x s h) : EV P call n c s h Q' := by
  obtain ⟨x, st', e, hq⟩ := hE
  exact ⟨x, st', e, hQ _ _ _ hq⟩

/-! Answers. -/
noncomputable def answer (P : Program) (rs : List ResultVar) (n : Nat) (s : List AV) (h : List Blk) : Option AV :=
  match resultsA P ⟨s, h⟩ rs with | some vs => snapA h (fun _ => true) n (packA vs) | none => none
def retQ (P : Program) (rs : List ResultVar) (n : Nat) (r : AV) : Post := fun x s h => match x with | .exit _ => False | _ => answer P rs n s h = some r
@[go_sem] theorem retQ_ret {rs : List ResultVar} {r : AV} {s : List AV} {h : List Blk} : retQ P rs n r .ret s h = (answer P rs n s h = some r) := rfl
@[go_sem] theorem retQ_normal {rs : List ResultVar} {r : AV} {s : List AV} {h : List Blk} : retQ P rs n r .normal s h = (answer P rs n s h = some r) := rfl

theorem runPure_EV {fn : Func} {c : Code} {rs : List ResultVar} {k : Nat} {args : List AV} {r : AV} (hb : fn.body = some c) (hrs : fn.results.toList = rs) (hk : fn.ntmps = k) (hr : idsOf r = []) (h : EV P call n c (args ++ unks (k - args.length)) [] (retQ P rs n r)) : runPure P call n fn args = some r := by
  subst hrs; subst hk
  obtain ⟨x, st', e, hq⟩ := h
  have hx : answer P fn.results.toList n st'.slots st'.heap = some r ∧ ∀ i, x ≠ .exit i := by
    cases x with
    | normal => exact ⟨hq, by simp⟩
    | ret => exact ⟨hq, by simp⟩
    | exit i => exact hq.elim
  obtain ⟨h1, h2⟩ := hx
  unfold answer at h1
  unfold runPure evalBody
  simp only [hb, e]
  split at h1
  · rename_i vs hvs
    cases x with
    | exit i => exact (h2 i rfl).elim
    | normal => simp only [hvs, h1, hr]
    | ret => simp only [hvs, h1, hr]
  · cases h1

/-! Calls. -/
noncomputable def callI (n : Nat) (l : List Nat) (H : List Blk) : Option AV → Option CRes | some r => (match idsOf r with | [] => bringA n l H [] r | _ => none) | none => none
noncomputable def callH (n : Nat) (F : List AV → Option AV) (l : List Nat) (H : List Blk) : Option (List AV) → Option CRes | some args => callI n l H (F args) | none => none
noncomputable def callF (n : Nat) (F : List AV → Option AV) (args : List AV) (H : List Blk) : Option CRes :=
  callH n F (reach H n ((idsOfL args).foldl insNat [])) H (mapO (snapA H (fun b => (reach H n ((idsOfL args).foldl insNat [])).contains b) n) args)
theorem evalCall_X {X : FuncId → Option (List AV → Option AV)} {f : FuncId} {F : List AV → Option AV} {args : List AV} {H : List Blk} (hf : callable P f = true) (hX : X f = some F) : evalCall P (fun _ => false) X (n + 1) f args H = callF n F args H := by
  unfold callable at hf
  unfold evalCall callF
  cases hfn : P.funcs[f]? with
  | none => rw [hfn] at hf; cases hf
  | some fn =>
    simp only [hX]
    cases mapO (snapA H (fun b => (reach H n ((idsOfL args).foldl insNat [])).contains b) n) args with
    | none => rfl
    | some args' =>
      simp only [callH, callI]
      cases F args' with
      | none => rfl
      | some r => rfl

/-- A pure argument list is handed on as it is. -/
def pureL (n : Nat) (args : List AV) : Prop := idsOfL args = [] ∧ ∀ H ok, mapO (snapA H ok n) args = some args
theorem callF_pure {F : List AV → Option AV} {args : List AV} {H : List Blk} {r : AV} (h : pureL n args) (hr : F args = some r) : callF n F args H = callI n (reach H n []) H (some r) := by
  unfold callF
  rw [h.1, h.2]
  simp only [List.foldl_nil, callH, hr]
theorem reach_nil {H : List Blk} : ∀ n, reach H n [] = []
  | 0 => rfl
  | n + 1 => by simp [reach]
theorem callI_val {l : List Nat} {H : List Blk} {r : AV} (h : idsOf r = []) (h2 : hasRef r = false) : callI n l H (some r) = some (.loc r [] l 0) := by
  simp only [callI, h, bringA, h2]

/-! Contracts by cases of their own. -/
open Classical in
noncomputable def mkF {α : Type} (enc : α → List AV) (res : α → AV) : List AV → Option AV := fun args => if h : ∃ a, enc a = args then some (res h.choose) else none
theorem mkF_at {α : Type} {enc : α → List AV} {res : α → AV} (hinj : ∀ a b, enc a = enc b → res a = res b) (a : α) : mkF enc res (enc a) = some (res a) := by
  unfold mkF
  have h : ∃ b, enc b = enc a := ⟨a, rfl⟩
  rw [dif_pos h]
  exact congrArg some (hinj _ _ h.choose_spec)
theorem mkF_inv {α : Type} {enc : α → List AV} {res : α → AV} {args : List AV} {r : AV} (h : mkF enc res args = some r) : ∃ a, args = enc a ∧ r = res a := by
  unfold mkF at h
  split at h
  · rename_i hex; cases h; exact ⟨_, hex.choose_spec.symm, rfl⟩
  · cases h

mutual
/-- Whether a slice is nil is forgotten. -/
def norm : AV → AV
  | .at (.slice none 0 0) => .sl true [] 0
  | .sl _ cs len => .sl true (normL cs) len
  | .agg cs => .agg (normL cs)
  | x => x
def normL : List AV → List AV
  | [] => []
  | c :: cs => norm c :: normL cs
end
mutual
theorem Rv.norm {w : World} {mu : Nat → Prop} {π : List (Option PB)} : (A : AV) → (v : Value) → Rv w mu π A v → Rv w mu π (norm A) v
  | .sl nl cs len, v, h => by
    simp only [Go.Eng.norm]
    rcases h with ⟨_, h2, rfl, h4⟩ | ⟨b, o, cap, h1, h2, h3, h4⟩ | ⟨h1, rfl, h2⟩
    · exact .inl ⟨rfl, h2, rfl, h4⟩
    · exact .inr (.inl ⟨b, o, cap, h1, h2, fun hne => h3 (by rintro rfl; exact hne rfl), RvC.norm cs b o h4⟩)
    · exact .inr (.inr ⟨h1, rfl, h2⟩)
  | .agg cs, v, h => by
    simp only [Go.Eng.norm]
    obtain ⟨vs, rfl, h2⟩ := h
    exact ⟨vs, rfl, RvL.norm cs _ h2⟩
  | .at x, v, h => by
    unfold Go.Eng.norm
    split
    · rename_i e; cases e; cases h; exact .inl ⟨rfl, rfl, rfl, rfl⟩
    · rename_i e; cases e
    · rename_i e; cases e
    · exact h
  | .unk, v, h | .pp .., v, h | .hs .., v, h | .hp .., v, h | .mp _, v, h | .tup _, v, h | .fn .., v, h => by simpa only [Go.Eng.norm] using h
theorem RvC.norm {w : World} {mu : Nat → Prop} {π : List (Option PB)} : (cs : List AV) → (b o : Nat) → RvC w mu π cs b o → RvC w mu π (normL cs) b o
  | [], _, _, h => h
  | c :: cs, b, o, h => by
    obtain ⟨⟨v, h1, h2, h3⟩, h4⟩ := h
    exact ⟨⟨v, h1, h2, Rv.norm c v h3⟩, RvC.norm cs b (o + 1) h4⟩
theorem RvL.norm {w : World} {mu : Nat → Prop} {π : List (Option PB)} : (cs : List AV) → (vs : List Value) → RvL w mu π cs vs → RvL w mu π (normL cs) vs
  | [], _, h => h
  | c :: cs, vs, h => by
    obtain ⟨v, vs', rfl, h1, h2⟩ := h
    exact ⟨v, vs', rfl, Rv.norm c v h1, RvL.norm cs vs' h2⟩
end

theorem ext_norm {f : FuncId} {F : List AV → Option AV} (h : ExtOk P f F) : ExtOk P f (fun args => F (normL args)) :=
  fun args r hr out w vs hout ha => h (normL args) r hr out w vs hout (RvL.norm args vs ha)
end
end Go.Eng
