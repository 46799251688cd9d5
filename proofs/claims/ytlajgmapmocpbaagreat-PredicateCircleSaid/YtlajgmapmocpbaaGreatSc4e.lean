/- The engine, part 22: what two functions that range over slices.Backward compute. -/
import Derived.Test.YtlajgmapmocpbaaGreatSc3e
import Derived.KernelRfl
set_option linter.unusedSimpArgs false
set_option linter.unusedVariables false
set_option linter.unusedVariables false
namespace Go.Eng
open Go
/-! Short spellings, for printed proofs. -/
@[reducible] def aI64 (n : Int) : AV := .at (.int .i64 n)
@[reducible] def aU64 (n : Int) : AV := .at (.int .u64 n)
@[reducible] def aU32 (n : Int) : AV := .at (.int .u32 n)
@[reducible] def aU8 (n : Int) : AV := .at (.int .u8 n)
@[reducible] def aI32 (n : Int) : AV := .at (.int .i32 n)
@[reducible] def aB (b : Bool) : AV := .at (.bool b)
@[reducible] def sI64 (l : List Int) : AV := slT (iC .i64) l
@[reducible] def sU32 (l : List Int) : AV := slT (iC .u32) l
@[reducible] def sU8 (l : List Int) : AV := slT (iC .u8) l
section
variable {P : Program} {call : CallF} {ops rest : List Oper} {o : Oper} {s : List AV} {h : List Blk} {K : List AV → List Blk → Prop} {KT : List AV → List Blk → List Ent → Prop}
  {dst : Option Tmp} {op : Op} {ty : TypeId} {pos : String} {after : Array Edge}
theorem EVO.p1 (v : AV) (hk : EVO P call ops rest (putA s dst v) h K) (he : evalOp P (evA s) h h.length ⟨dst, op, ty, pos, after, none⟩ = some (.pure v) := by kernel_rfl) : EVO P call ops (⟨dst, op, ty, pos, after, none⟩ :: rest) s h K := EVO.p0 he hk
theorem EVO.e1 (v : AV) (ws : List (Nat × Blk)) (hk : EVO P call ops rest (putA s dst v) (updAll h ws) K) (he : evalOp P (evA s) h h.length ⟨dst, op, ty, pos, after, none⟩ = some (.eff v ws) := by kernel_rfl) : EVO P call ops (⟨dst, op, ty, pos, after, none⟩ :: rest) s h K := EVO.e0 he hk
theorem EVO.q1 (v : AV) (hk : EVO P call ops rest (putA s o.dst v) h K) (hw : wantedA ops o s = some true := by kernel_rfl) (he : evalOp P (evA s) h h.length o = some (.pure v) := by kernel_rfl) : EVO P call ops (o :: rest) s h K := EVO.pure hw he hk
theorem EVO.s1 (hk : EVO P call ops rest (putA s o.dst (.at undef)) h K) (hw : wantedA ops o s = some false := by kernel_rfl) : EVO P call ops (o :: rest) s h K := EVO.skip hw hk
theorem EVT.p1 (v : AV) (hk : EVT P call ops rest (putA s o.dst v) h (fun s' h' es => KT s' h' (entP o s h v [] :: es))) (hw : wantedA ops o s = some true := by kernel_rfl) (he : evalOp P (evA s) h h.length o = some (.pure v) := by kernel_rfl) (hok : entOk h.length (entP o s h v []) = true := by kernel_rfl) : EVT P call ops (o :: rest) s h KT := EVT.pure hw he hok hk
theorem EVT.e1 (v : AV) (ws : List (Nat × Blk)) (hk : EVT P call ops rest (putA s o.dst v) (updAll h ws) (fun s' h' es => KT s' h' (entP o s h v ws :: es))) (hw : wantedA ops o s = some true := by kernel_rfl) (he : evalOp P (evA s) h h.length o = some (.eff v ws) := by kernel_rfl) (hok : entOk h.length (entP o s h v ws) = true := by kernel_rfl) : EVT P call ops (o :: rest) s h KT := EVT.eff hw he hok hk
theorem EVT.s1 (hk : EVT P call ops rest (putA s o.dst (.at undef)) h (fun s' h' es => KT s' h' (entS o h :: es))) (hw : wantedA ops o s = some false := by kernel_rfl) (hok : entOk h.length (entS o h) = true := by kernel_rfl) : EVT P call ops (o :: rest) s h KT := EVT.skip hw hok hk
end
theorem CQ.n1 {K : Nat} {P : Program} {k : List Fr} {F : X → St → Prop} {d : Code} {s : List AV} {h : List Blk} (keep : List Nat) (s' : List AV) (h' : List Blk) (hk : CQ K P (.c d :: k) F .normal ⟨s', h'⟩) (e : maskS keep s 0 = s' := by kernel_rfl) (e2 : h = h' := by kernel_rfl) : CQ K P (.c d :: k) F .normal ⟨s, h⟩ := CQ.norm keep e e2 hk
theorem callOf_1 {P : Program} (f : FuncId) (args : List AV) (H : List Blk) (r : CRes) (h : CallOk P f args H r) : CallsOk P (callOf [{ f := f, args := args, H := H, r := r : CE }]) := callOf_one h
theorem ce0 {p : CE → Prop} : ∀ e ∈ ([] : List CE), p e := fun _ h => nomatch h
theorem CQ.r0 {K : Nat} {P : Program} {k : List Fr} {F : X → St → Prop} (G : Fine P) {i : Nat} {l : List Oper} {s : List AV} {h : List Blk} (he : EVO P (callOf []) l l s h (fun s' h' => CQ K P k F .normal ⟨s', h'⟩)) : CQ K P (.c (.region i l.toArray false) :: k) F .normal ⟨s, h⟩ := CQ.region G callOf_nil he
theorem FinQ.r1 {P : Program} {rs : List ResultVar} {r : AV} {st : St} (vs : List AV) (h : resultsA P st rs = some vs := by kernel_rfl) (k : Sn st.heap (fun _ => true) (packA vs) r := by exact Sn.pure rfl) : FinQ P rs r .ret st := FinQ.ret h k
end Go.Eng
namespace Go.L
open Go Go.Eng

/-- A magnitude's value below some group. -/
def wordW : List Int → Int := List.foldl (fun s v => IntKind.u64.wrap (IntKind.u64.wrap (s * 1000000000) + IntKind.u64.wrap v)) 0
def cmp3 (a b : Int) : Int := if a < b then -1 else if a > b then 1 else 0
def cmpE : List Int → List Int → Int
  | x :: xs, y :: ys => if cmpE xs ys ≠ 0 then cmpE xs ys else cmp3 x y
  | _, _ => 0
def integer_word (n : Nat) (g : List Int) : Option (Int × Bool) :=
  gdO (decide (g.length ≤ 1099511627776)) (some (bif decide (g.length > 2) then (0, false) else (wordW g.reverse, true)))
def integer_compare (n : Nat) (a : List Int) (b : List Int) : Option Int :=
  gdO (decide (a.length ≤ 1099511627776)) (gdO (decide (b.length ≤ 1099511627776)) (some (bif decide (a.length = b.length) then cmpE a b else cmp3 a.length b.length)))
end Go.L
