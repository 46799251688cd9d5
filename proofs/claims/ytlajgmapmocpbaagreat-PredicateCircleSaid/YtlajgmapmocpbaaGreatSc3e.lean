/- The engine, part 21: lists in slices: what an operation comes to. -/
import Derived.Test.YtlajgmapmocpbaaGreatSc2e
set_option linter.unusedSimpArgs false
set_option linter.unusedVariables false
set_option linter.unusedVariables false
namespace Go.Eng
open Go Go.RowKit
variable {K : Nat}

/-- A slice that came in: its elements' cells. -/
def slT {α : Type} (c : α → List AV) (l : List α) : AV := .sl true (l.flatMap c) l.length
def iC (k : IntKind) (n : Int) : List AV := [.at (.int k n)]
def bC (b : Bool) : List AV := [.at (.bool b)]
def gt {α : Type} [Inhabited α] (l : List α) (i : Int) : α := l.getD i.toNat default
def inR (i : Int) (n : Nat) : Bool := decide (0 ≤ i) && decide (i < (n : Int))
def inS (lo hi : Int) (n : Nat) : Bool := decide (0 ≤ lo) && decide (lo ≤ hi) && decide (hi ≤ (n : Int))

theorem inR_lt {i : Int} {n : Nat} (h : inR i n = true) : i.toNat < n := by
  simp only [inR, Bool.and_eq_true, decide_eq_true_eq] at h; omega
section
variable {α : Type} {c : α → List AV} {es : Nat} {l : List α}
theorem flat_len (hc : ∀ x, (c x).length = es) : ∀ l : List α, (l.flatMap c).length = l.length * es
  | [] => by simp
  | x :: l => by simp only [List.flatMap_cons, List.length_append, hc, flat_len hc l, List.length_cons, Nat.add_mul, Nat.one_mul]; omega
theorem flat_drop (hc : ∀ x, (c x).length = es) : ∀ (l : List α) (i : Nat), (l.flatMap c).drop (i * es) = (l.drop i).flatMap c
  | l, 0 => by simp
  | [], i + 1 => by simp
  | x :: l, i + 1 => by
    rw [List.flatMap_cons, List.drop_succ_cons, ← flat_drop hc l i, show (i + 1) * es = (c x).length + i * es by rw [hc, Nat.add_mul, Nat.one_mul, Nat.add_comm], List.drop_append]
    simp
theorem flat_take (hc : ∀ x, (c x).length = es) : ∀ (l : List α) (i : Nat), (l.flatMap c).take (i * es) = (l.take i).flatMap c
  | l, 0 => by simp
  | [], i + 1 => by simp
  | x :: l, i + 1 => by
    rw [List.flatMap_cons, List.take_succ_cons, List.flatMap_cons, ← flat_take hc l i, show (i + 1) * es = (c x).length + i * es by rw [hc, Nat.add_mul, Nat.one_mul, Nat.add_comm], List.take_append]
    simp [List.take_of_length_le]
theorem drop_getD [Inhabited α] : ∀ (l : List α) (i : Nat), i < l.length → l.drop i = l.getD i default :: l.drop (i + 1)
  | [], i, h => by simp at h
  | x :: l, 0, h => by simp
  | x :: l, i + 1, h => by simpa using drop_getD l i (by simpa using h)
theorem flat_at [Inhabited α] (hc : ∀ x, (c x).length = es) {i : Nat} (hi : i < l.length) : ((l.flatMap c).drop (i * es)) = c (l.getD i default) ++ (l.drop (i + 1)).flatMap c := by
  rw [flat_drop hc, drop_getD l i hi, List.flatMap_cons]
theorem flat_get [Inhabited α] (hc : ∀ x, (c x).length = es) {i j k : Nat} {A : AV} (hi : i < l.length) (hk : k < es) (hj : j = i * es + k) (hA : (c (l.getD i default))[k]? = some A) : (l.flatMap c)[j]? = some A := by
  have : (l.flatMap c)[j]? = ((l.flatMap c).drop (i * es))[k]? := by rw [List.getElem?_drop, hj]
  rw [this, flat_at hc hi, List.getElem?_append_left (by rw [hc]; exact hk), hA]
theorem flat_part [Inhabited α] (hc : ∀ x, (c x).length = es) {i j k n : Nat} (hi : i < l.length) (hk : k + n ≤ es) (hj : j = i * es + k) : ((l.flatMap c).drop j).take n = ((c (l.getD i default)).drop k).take n := by
  rw [hj, ← List.drop_drop, flat_at hc hi, List.drop_append_of_le_length (by rw [hc]; omega), List.take_append_of_le_length (by rw [List.length_drop, hc]; omega)]
theorem flat_room [Inhabited α] (hc : ∀ x, (c x).length = es) {i j k n : Nat} (hi : i < l.length) (hk : k + n ≤ es) (hj : j = i * es + k) : decide (n ≤ ((l.flatMap c).drop j).length) = true := by
  rw [decide_eq_true_eq, List.length_drop, flat_len hc, hj]
  have : (i + 1) * es ≤ l.length * es := Nat.mul_le_mul_right _ hi
  rw [Nat.add_mul, Nat.one_mul] at this
  omega
theorem setCells_append_left : ∀ (xs cs ds : List AV) (k : Nat), k + xs.length ≤ cs.length → setCells (cs ++ ds) k xs = setCells cs k xs ++ ds
  | [], _, _, _, _ => rfl
  | x :: xs, cs, ds, k, h => by
    simp only [setCells]
    rw [List.set_append_left _ _ (by simp at h; omega), setCells_append_left xs (cs.set k x) ds (k + 1) (by simp at h ⊢; omega)]
theorem setCells_append_right : ∀ (xs cs ds : List AV) (k : Nat), setCells (cs ++ ds) (cs.length + k) xs = cs ++ setCells ds k xs
  | [], _, _, _ => rfl
  | x :: xs, cs, ds, k => by
    simp only [setCells]
    rw [List.set_append_right _ _ (by omega), show cs.length + k - cs.length = k by omega, Nat.add_assoc, setCells_append_right xs cs (ds.set k x) (k + 1)]
theorem flat_set [Inhabited α] (hc : ∀ x, (c x).length = es) {i j k : Nat} {xs : List AV} {x' : α} (hi : i < l.length) (hk : k + xs.length ≤ es) (hj : j = i * es + k) (hx : setCells (c (l.getD i default)) k xs = c x') : setCells (l.flatMap c) j xs = (l.set i x').flatMap c := by
  have hl : l = l.take i ++ l.getD i default :: l.drop (i + 1) := by rw [← drop_getD l i hi, List.take_append_drop]
  have hlen : (l.take i).length = i := by rw [List.length_take]; omega
  have hlen2 : ((l.take i).flatMap c).length = i * es := by rw [flat_len hc, hlen]
  have hs : l.set i x' = l.take i ++ x' :: l.drop (i + 1) := by
    rw [List.set_eq_take_append_cons_drop, if_pos hi]
  rw [hs]
  generalize hd : l.getD i default = d at *
  have h0 : l.flatMap c = (l.take i).flatMap c ++ (c d ++ (l.drop (i + 1)).flatMap c) := by
    rw [← List.flatMap_cons, ← List.flatMap_append, ← hl]
  rw [h0, hj, ← hlen2, setCells_append_right, setCells_append_left _ _ _ _ (by rw [hc]; exact hk), hx, ← List.flatMap_cons, ← List.flatMap_append]
theorem flat_fits (hc : ∀ x, (c x).length = es) {i j k n : Nat} (hi : i < l.length) (hk : k + n ≤ es) (hj : j = i * es + k) : decide (j + n ≤ (l.flatMap c).length) = true := by
  rw [decide_eq_true_eq, flat_len hc, hj]
  have : (i + 1) * es ≤ l.length * es := Nat.mul_le_mul_right _ hi
  rw [Nat.add_mul, Nat.one_mul] at this
  omega
theorem ids_app : ∀ (a b : List AV), idsOfL (a ++ b) = idsOfL a ++ idsOfL b
  | [], b => rfl
  | x :: a, b => by simp [idsOfL, ids_app a b]
theorem ids_flat (hp : ∀ x, idsOfL (c x) = []) : ∀ l : List α, idsOfL (l.flatMap c) = []
  | [] => rfl
  | x :: l => by rw [List.flatMap_cons, ids_app, hp, ids_flat hp l]; rfl
theorem flat_zero {z : α} : ∀ n : Nat, zerosA (c z) n = (List.replicate n z).flatMap c
  | 0 => rfl
  | n + 1 => by simp only [zerosA, List.replicate_succ, List.flatMap_cons, flat_zero n]
theorem flat_nil0 {l : List α} (h : l.length = 0) : l.flatMap c = [] := by rw [List.length_eq_zero_iff.1 h]; rfl
end

/-! What an operation comes to, when what it asks is so. -/
def guardV (b : Bool) (v : AV) : Option AV := match b with | true => some v | false => none
def guardO (b : Bool) (r : Option ORes) : Option ORes := match b with | true => r | false => none
def stO (b : Bool) (ws : List (Nat × Blk)) : Option ORes := match (match b with | true => some ws | false => none) with | some ws => some (.eff .unk ws) | none => none
def slO (b : Bool) (lo hi : Nat) (f : Nat → Nat → AV) : Option ORes := ORes.ofP (match (match b with | true => some (lo, hi) | false => none) with | some (l, h) => some (f l h) | none => none)
theorem ofP_guard {b : Bool} {v : AV} (h : b = true) : ORes.ofP (guardV b v) = some (.pure v) := by subst h; rfl
theorem ofP_some {o : Option AV} {v : AV} (h : o = some v) : ORes.ofP o = some (.pure v) := by subst h; rfl
theorem guardO_t {b : Bool} {r r' : Option ORes} (h : b = true) (hr : r = r') : guardO b r = r' := by subst h; exact hr
theorem stO_t {b : Bool} {i : Nat} {y y' : Blk} (h : b = true) (hy : y = y') : stO b [(i, y)] = some (.eff .unk [(i, y')]) := by subst h; subst hy; rfl
theorem slO_t {b : Bool} {lo hi : Nat} {f : Nat → Nat → AV} {v : AV} (h : b = true) (hv : f lo hi = v) : slO b lo hi f = some (.pure v) := by subst h; subst hv; rfl

section
variable {α : Type} {c : α → List AV} {es : Nat} {l : List α}
/-- Behind a list a further one. -/
theorem app_own (hc : ∀ x, (c x).length = es) {xs : List α} {new : List AV} {i nid m by_ len : Nat} (hlen : len = l.length) (hm : xs.length = m) (hn : new = xs.flatMap c) (h2 : decide ((l.length + m) * by_ ≤ 140737488355328) = true) (h3 : decide (l.length + m ≤ 4611686018427387904) = true) :
    guardO (decide (0 + len * es ≤ (l.flatMap c).length) && decide ((len + m) * by_ ≤ 140737488355328) && decide (len + m ≤ 4611686018427387904)) (some (.eff (.hs nid 0 (len + m) es) [(i, .dead), (nid, .own (((l.flatMap c).drop 0).take (len * es) ++ new))])) =
      some (.eff (.hs nid 0 (l ++ xs).length es) [(i, .dead), (nid, .own ((l ++ xs).flatMap c))]) := by
  subst hlen
  have h1 : decide (0 + l.length * es ≤ (l.flatMap c).length) = true := by rw [decide_eq_true_eq, flat_len hc]; omega
  have h4 : ((l.flatMap c).drop 0).take (l.length * es) = l.flatMap c := by rw [List.drop_zero, ← flat_len hc, List.take_length]
  rw [h1, h2, h3, h4, hn, ← List.flatMap_append, List.length_append, hm]; rfl
def appS (b : Bool) (new : List AV) (m : Nat) (f : List AV → Nat → Option ORes) : Option ORes := match (match b with | true => some (new, m) | false => none) with | none => none | some (new, m) => f new m
theorem appS_t {b : Bool} {new new' : List AV} {m : Nat} {f : List AV → Nat → Option ORes} {r : Option ORes} (hb : b = true) (hn : new = new') (h : f new' m = r) : appS b new m f = r := by subst hb; subst hn; exact h
theorem flat_lenB (hc : ∀ x, (c x).length = es) : decide ((l.flatMap c).length = l.length * es) = true := by rw [decide_eq_true_eq, flat_len hc]
theorem flat_lenO (hc : ∀ x, (c x).length = es) : decide (0 + l.length * es ≤ (l.flatMap c).length) = true := by rw [decide_eq_true_eq, flat_len hc]; omega
theorem flat_all (hc : ∀ x, (c x).length = es) : ((l.flatMap c).drop 0).take (l.length * es) = l.flatMap c := by rw [List.drop_zero, ← flat_len hc, List.take_length]
theorem app_nil {xs : List α} {new : List AV} {nid m by_ : Nat} (hm : m = xs.length) (hn : new = xs.flatMap c) (h2 : decide (m * by_ ≤ 140737488355328) = true) (h3 : decide (m ≤ 4611686018427387904) = true) :
    guardO (decide (m * by_ ≤ 140737488355328) && decide (m ≤ 4611686018427387904) && true) (some (.eff (.hs nid 0 m es) [(nid, .own new)])) = some (.eff (.hs nid 0 xs.length es) [(nid, .own (xs.flatMap c))]) := by
  rw [h2, h3, hm, hn]; rfl
/-- A list of nothing. -/
theorem make_own {z : α} {zc : List AV} {n : Int} {nid by_ : Nat} (hz : zc = c z) (h : decide (0 ≤ n) = true) (h2 : decide ((by_ : Int) * n ≤ 281474976710656) = true) (h3 : decide (n ≤ 9223372036854775807) = true) :
    guardO (decide (0 ≤ n) && decide (n ≤ n) && decide ((by_ : Int) * n ≤ 281474976710656) && decide (n ≤ 9223372036854775807) && true && true && true) (some (.eff (.hs nid 0 n.toNat es) [(nid, .own (zerosA zc n.toNat))])) =
      some (.eff (.hs nid 0 (List.replicate n.toNat z).length es) [(nid, .own ((List.replicate n.toNat z).flatMap c))]) := by
  subst hz
  have : decide (n ≤ n) = true := by simp
  rw [h, h2, h3, this, flat_zero, List.length_replicate]; rfl
theorem sub_sl (hc : ∀ x, (c x).length = es) {a b : Nat} (hb : b ≤ l.length) : AV.sl true (((l.flatMap c).drop (a * es)).take ((b - a) * es)) (b - a) = slT c ((l.drop a).take (b - a)) := by
  unfold slT
  rw [flat_drop hc, flat_take hc, List.length_take, List.length_drop, Nat.min_eq_left (by omega)]
end
def mx (x y : Int) : Int := if y > x then y else x
def mn (x y : Int) : Int := if y < x then y else x
theorem mx_eq (x y : Int) : mx x y = max x y := by unfold mx; split <;> omega
theorem mn_eq (x y : Int) : mn x y = min x y := by unfold mn; split <;> omega
def bitO (op : BinOp) (k : IntKind) (x y : Int) : Int :=
  match op with
  | .and => k.wrap (BitVec.ofInt k.bits x &&& BitVec.ofInt k.bits y).toNat
  | .or => k.wrap (BitVec.ofInt k.bits x ||| BitVec.ofInt k.bits y).toNat
  | .xor => k.wrap (BitVec.ofInt k.bits x ^^^ BitVec.ofInt k.bits y).toNat
  | .andNot => k.wrap (BitVec.ofInt k.bits x &&& ~~~ BitVec.ofInt k.bits y).toNat
  | _ => 0
theorem wrap_at {k : IntKind} {n : Int} : (some (.pure (.at (.int k (k.wrap n)))) : Option ORes) = some (.pure (.at (.int k (wrapF k n)))) := by rw [wrapF_eq]
section
variable {P : Program} {ρ : Operand → AV} {H : List Blk} {nid : Nat} {dst : Option Tmp} {ty t u : TypeId} {pos : String} {after : Array Edge} {g : Option (Nat × Bool)} {a b : Operand} {k : IntKind} {x y : Int}
theorem beqA_self (k : IntKind) : IntKind.beqA k k = true := by cases k <;> rfl
theorem binOp_at (ha : ρ a = .at (.int k x)) (hb : ρ b = .at (.int k y)) {op : BinOp} {v : Value} (h : intOpA op k x y = some v) : evalOp P ρ H nid ⟨dst, .binOp op t a b u, ty, pos, after, g⟩ = some (.pure (.at v)) := by
  show ORes.ofP (binOpA P op t a b (ρ a) (ρ b)) = _
  rw [ha, hb]
  have : binOpA P op t a b (.at (.int k x)) (.at (.int k y)) = some (.at v) := by
    unfold binOpA
    simp only [beqA_self, h]
  rw [this]; rfl
theorem op_quo (ha : ρ a = .at (.int k x)) (hb : ρ b = .at (.int k y)) (h : (!decide (y = 0)) = true) : evalOp P ρ H nid ⟨dst, .binOp .quo t a b u, ty, pos, after, g⟩ = some (.pure (.at (.int k (wrapF k (x.tdiv y))))) := by
  have hd : decide (y = 0) = false := by simpa using h
  exact binOp_at ha hb (by simp only [intOpA, hd])
theorem op_rem (ha : ρ a = .at (.int k x)) (hb : ρ b = .at (.int k y)) (h : (!decide (y = 0)) = true) : evalOp P ρ H nid ⟨dst, .binOp .rem t a b u, ty, pos, after, g⟩ = some (.pure (.at (.int k (x.tmod y)))) := by
  have hd : decide (y = 0) = false := by simpa using h
  exact binOp_at ha hb (by simp only [intOpA, hd])
end
/-! Steps without a guard. -/
section
variable {P : Program} {call : CallF} {ops rest : List Oper} {s : List AV} {h : List Blk} {K : List AV → List Blk → Prop} {KT : List AV → List Blk → List Ent → Prop} {v : AV} {ws : List (Nat × Blk)}
  {dst : Option Tmp} {op : Op} {ty : TypeId} {pos : String} {after : Array Edge}
theorem EVO.p0 (he : evalOp P (evA s) h h.length ⟨dst, op, ty, pos, after, none⟩ = some (.pure v)) (hk : EVO P call ops rest (putA s dst v) h K) : EVO P call ops (⟨dst, op, ty, pos, after, none⟩ :: rest) s h K := EVO.pure rfl he hk
theorem EVO.e0 (he : evalOp P (evA s) h h.length ⟨dst, op, ty, pos, after, none⟩ = some (.eff v ws)) (hk : EVO P call ops rest (putA s dst v) (updAll h ws) K) : EVO P call ops (⟨dst, op, ty, pos, after, none⟩ :: rest) s h K := EVO.eff rfl he hk
theorem EVO.c0 {f : FuncId} {args : List AV} {rd : List Nat} {n : Nat} (he : evalOp P (evA s) h h.length ⟨dst, op, ty, pos, after, none⟩ = some (.call f args)) (hc : call f args h = some (.loc v ws rd n)) (hk : EVO P call ops rest (putA s dst v) (updAll (h ++ deads n) ws) K) : EVO P call ops (⟨dst, op, ty, pos, after, none⟩ :: rest) s h K := EVO.cal rfl he hc hk
end
section
variable {P : Program} {call : CallF} {ops rest : List Oper} {o : Oper} {s : List AV} {h : List Blk} {KT : List AV → List Blk → List Ent → Prop} {v : AV} {ws : List (Nat × Blk)}
theorem EVT.p0 (hw : wantedA ops o s = some true) (he : evalOp P (evA s) h h.length o = some (.pure v)) (hok : entOk h.length (entP o s h v []) = true) (hk : EVT P call ops rest (putA s o.dst v) h (fun s' h' es => KT s' h' (entP o s h v [] :: es))) : EVT P call ops (o :: rest) s h KT := EVT.pure hw he hok hk
end
theorem CQ.cT {P : Program} {k : List Fr} {F : X → St → Prop} {st : St} {c : Operand} {a b : Code} (hv : evA st.slots c = .at (.bool true)) (h : CQ K P (.c a :: k) F .normal st) : CQ K P (.c (.cond c a b) :: k) F .normal st := CQ.cond hv (fun _ => h) (fun e => by cases e)
theorem CQ.cF {P : Program} {k : List Fr} {F : X → St → Prop} {st : St} {c : Operand} {a b : Code} (hv : evA st.slots c = .at (.bool false)) (h : CQ K P (.c b :: k) F .normal st) : CQ K P (.c (.cond c a b) :: k) F .normal st := CQ.cond hv (fun e => by cases e) (fun _ => h)
/-- A stretch, with what holds behind it. -/
theorem CQ.cut {P : Program} {k : List Fr} {F : X → St → Prop} {st : St} {d : Code} (Q : X → St → Prop) (h1 : CQ K P [.c d] Q .normal st) (h2 : ∀ x st', Q x st' → CQ K P k F x st') : CQ K P (.c d :: k) F .normal st := SC.mono (Q := CQ K P [] Q) h1 h2

theorem iC_len (k : IntKind) : ∀ x, (iC k x).length = 1 := fun _ => rfl
theorem iC_pure (k : IntKind) : ∀ x, idsOfL (iC k x) = [] := fun _ => rfl
theorem bC_len : ∀ x, (bC x).length = 1 := fun _ => rfl
theorem bC_pure : ∀ x, idsOfL (bC x) = [] := fun _ => rfl
def slC {α : Type} (c : α → List AV) (l : List α) : List AV := [slT c l]
theorem slC_len {α : Type} (c : α → List AV) : ∀ x, (slC c x).length = 1 := fun _ => rfl
theorem slC_pure {α : Type} (c : α → List AV) : ∀ x, idsOfL (slC c x) = [] := fun _ => rfl
theorem flat_load {α : Type} {c : α → List AV} {es : Nat} {l : List α} [Inhabited α] (hc : ∀ x, (c x).length = es) {i j k n : Nat} {cs : List AV} (hi : i < l.length) (hk : k + n ≤ es) (hj : j = i * es + k) (hcs : ((c (l.getD i default)).drop k).take n = cs) :
    ORes.ofP (guardV (decide (n ≤ ((l.flatMap c).drop j).length)) (.agg (((l.flatMap c).drop j).take n))) = some (.pure (.agg cs)) := by
  rw [flat_part hc hi hk hj, hcs]; exact ofP_guard (flat_room hc hi hk hj)
theorem and_t {b : Bool} (h : b = true) : (b && true) = true := by subst h; rfl
theorem inS_le {lo hi : Int} {n : Nat} (h : inS lo hi n = true) : hi.toNat ≤ n := by
  simp only [inS, Bool.and_eq_true, decide_eq_true_eq] at h; omega
theorem flat_inj {α : Type} {c : α → List AV} {es : Nat} (hl : ∀ x, (c x).length = es) (h0 : 0 < es) (hc : ∀ x y, c x = c y → x = y) : ∀ l l' : List α, l.flatMap c = l'.flatMap c → l = l'
  | [], [], _ => rfl
  | [], y :: l', h => by have := congrArg List.length h; simp only [List.flatMap_nil, List.flatMap_cons, List.length_append, List.length_nil, hl] at this; omega
  | x :: l, [], h => by have := congrArg List.length h; simp only [List.flatMap_nil, List.flatMap_cons, List.length_append, List.length_nil, hl] at this; omega
  | x :: l, y :: l', h => by
    simp only [List.flatMap_cons] at h
    obtain ⟨h1, h2⟩ := List.append_inj h (by rw [hl, hl])
    rw [hc x y h1, flat_inj hl h0 hc l l' h2]
theorem slT_inj {α : Type} {c : α → List AV} {es : Nat} (hl : ∀ x, (c x).length = es) (h0 : 0 < es) (hc : ∀ x y, c x = c y → x = y) {l l' : List α} : slT c l = slT c l' ↔ l = l' := by
  constructor
  · intro h
    unfold slT at h
    injection h with _ h _
    exact flat_inj hl h0 hc l l' h
  · rintro rfl; rfl
theorem iC_inj (k : IntKind) : ∀ x y, iC k x = iC k y → x = y := fun x y h => by unfold iC at h; injection h with h; injection h with h; injection h
theorem bC_inj : ∀ x y, bC x = bC y → x = y := fun x y h => by unfold bC at h; injection h with h; injection h with h; injection h
theorem slT_inj_int {k : IntKind} {l l' : List Int} : slT (iC k) l = slT (iC k) l' ↔ l = l' := slT_inj (iC_len k) (by decide) (iC_inj k)
theorem slT_inj_bool {l l' : List Bool} : slT bC l = slT bC l' ↔ l = l' := slT_inj bC_len (by decide) bC_inj
theorem slC_inj {α : Type} {c : α → List AV} {es : Nat} (hl : ∀ x, (c x).length = es) (h0 : 0 < es) (hc : ∀ x y, c x = c y → x = y) : ∀ x y, slC c x = slC c y → x = y := fun x y h => by
  unfold slC at h; injection h with h; exact (slT_inj hl h0 hc).1 h
/-- A nil slice as one that came in. -/
theorem Wk.nilT (i : Nat) {s : List AV} {h : List Blk} (hs : getS s i = .at (.slice none 0 0)) : Wk K ⟨s, h⟩ ⟨s.set i (.sl true [] 0), h⟩ := Wk.slot i fun out B w π v hI hv => by
  rw [← getS_eq, hs] at hv
  exact .inl ⟨rfl, rfl, rfl, hv⟩
/-- A length told in other words. -/
theorem Wk.relen (i : Nat) {b len es : Nat} (len' : Nat) {s : List AV} {h : List Blk} (hs : getS s i = .hs b 0 len es) (hl : len = len') : Wk K ⟨s, h⟩ ⟨s.set i (.hs b 0 len' es), h⟩ := Wk.slot i fun out B w π v hI hv => by
  rw [← getS_eq, hs, hl] at hv
  exact hv
theorem CQ.nilcase {P : Program} {k : List Fr} {F : X → St → Prop} {d : Code} {t : Nat} {cs : List AV} {len : Nat} {s : List AV} {h : List Blk} (hs : getS s t = .sl true cs len) (h1 : len = 0 → CQ K P (.c d :: k) F .normal ⟨s.set t (.at (.slice none 0 0)), h⟩) (h2 : CQ K P (.c d :: k) F .normal ⟨s.set t (.sl false cs len), h⟩) : CQ K P (.c d :: k) F .normal ⟨s, h⟩ := by
  intro out B w π act R hR hr
  have hv := slot_sound hR.slots t
  rw [hs] at hv
  have hset : ∀ A', Rv w (muOf out π h) π A' (act.tmps.getD t undef) → Rep out B w π ⟨s.set t A', h⟩ act := by
    intro A' hA'
    refine ⟨hR.defers, ?_, hR.inv⟩
    have hss := hR.slots
    simp only at hss ⊢
    by_cases hi : t < s.length
    · obtain ⟨v, g1, g2⟩ := RvL.get _ _ t s[t] hss (List.getElem?_eq_getElem hi)
      have e2 : act.tmps.getD t undef = v := by
        rw [Array.getElem?_toList] at g1
        rw [Array.getD_eq_getD_getElem?, g1]; rfl
      rw [e2] at hA'
      have hst := RvL.set s act.tmps.toList t A' v hss hA'
      have : act.tmps.toList.set t v = act.tmps.toList := by
        apply List.ext_getElem?
        intro j
        rw [List.getElem?_set]
        split
        · rename_i hij; subst hij
          rw [if_pos (getElem?_lt g1)]; exact g1.symm
        · rfl
      rw [this] at hst; exact hst
    · rw [List.set_eq_of_length_le (by omega)]; exact hss
  rcases hv with ⟨_, e1, e2, e3⟩ | e
  · exact h1 e1 out B w π act R (hset _ e3) hr
  · exact h2 out B w π act R (hset (.sl false cs len) (.inr e)) hr
theorem callOf_at {e : CE} {L : List CE} {H : List Blk} (hH : H = e.H) : callOf (e :: L) e.f e.args H = some e.r := by subst hH; exact callOf_hd
theorem callOf_skip {e : CE} {L : List CE} {f : FuncId} {args : List AV} {H : List Blk} {r : CRes} (hne : f = e.f → args = e.args → r = e.r) (h : callOf L f args H = some r) : callOf (e :: L) f args H = some r := by
  simp only [callOf]
  split
  · rename_i hk; rw [hne hk.1 hk.2.1]
  · exact h
/-- Rounds, as many as there is fuel. -/
def loopO {α β : Type} : Nat → ((α → Option β) → α → Option β) → α → Option β
  | 0, _, _ => none
  | n + 1, f, a => f (loopO n f) a
theorem CQ.loopO {P : Program} {k : List Fr} {F : X → St → Prop} {st : St} {α β : Type} {c : Code} {f : (α → Option β) → α → Option β} {m : Nat} {a0 : α} {o : β} (σ : α → St) (Q : X → St → Prop) (h0 : loopO m f a0 = some o) (hw : Wk K st (σ a0))
    (hb : ∀ m a, f (Go.Eng.loopO m f) a = some o → CQ K P [.c c] (loopF K σ (fun m a => Go.Eng.loopO m f a = some o) (m + 1) Q) .normal (σ a)) (ha : ∀ x st', Q x st' → CQ K P k F x st') : CQ K P (.c (.loop c) :: k) F .normal st :=
  CQ.loop σ (fun m a => Go.Eng.loopO m f a = some o) Q a0 h0 hw (fun n a h => by
    cases n with
    | zero => cases h
    | succ n => exact hb n a h) ha

/-! The lifted programs' words. -/
def gdO {α : Type} (b : Bool) (t : Option α) : Option α := match b with | true => t | false => none
def cdO {α : Type} (b : Bool) (t e : Option α) : Option α := match b with | true => t | false => e
def bdO {α β : Type} (x : Option α) (f : α → Option β) : Option β := match x with | some a => f a | none => none
theorem gd {α : Type} {b : Bool} {t : Option α} {r : α} (h : gdO b t = some r) : b = true ∧ t = some r := by cases b; cases h; exact ⟨rfl, h⟩
theorem cd_t {α : Type} {b : Bool} {t e : Option α} {r : α} (hb : b = true) (h : cdO b t e = some r) : t = some r := by subst hb; exact h
theorem cd_f {α : Type} {b : Bool} {t e : Option α} {r : α} (hb : b = false) (h : cdO b t e = some r) : e = some r := by subst hb; exact h
theorem bd {α β : Type} {x : Option α} {f : α → Option β} {r : β} (h : bdO x f = some r) : ∃ a, x = some a ∧ f a = some r := by cases x; cases h; exact ⟨_, rfl, h⟩
/-- Slots by their numbers, the others forgotten. -/
def mkS : Nat → Nat → List (Nat × AV) → List AV
  | 0, _, _ => []
  | n + 1, i, [] => .unk :: mkS n (i + 1) []
  | n + 1, i, (t, A) :: l => match Nat.beq t i with | true => A :: mkS n (i + 1) l | false => .unk :: mkS n (i + 1) ((t, A) :: l)
/-- A state written anew. -/
theorem CQ.norm {P : Program} {k : List Fr} {F : X → St → Prop} {d : Code} {s s' : List AV} {h h' : List Blk} (keep : List Nat) (e : maskS keep s 0 = s') (e2 : h = h') (hk : CQ K P (.c d :: k) F .normal ⟨s', h'⟩) : CQ K P (.c d :: k) F .normal ⟨s, h⟩ := CQ.wk ((Wk.mask keep).to (by rw [e, e2])) hk
end Go.Eng
