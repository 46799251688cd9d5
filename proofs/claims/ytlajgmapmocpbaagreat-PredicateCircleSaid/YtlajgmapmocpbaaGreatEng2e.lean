/- The engine, part 2: what one operation does to abstract values and blocks. -/
import Derived.Test.YtlajgmapmocpbaaGreatEng1e
import Derived.Laws.Rows
import Derived.Laws.Bits64
import Derived.Laws.BitsLemmas
set_option linter.unusedSimpArgs false
set_option linter.unusedVariables false
namespace Go.Eng
open Go

/-- A computation that touches nothing. -/
def pureRun {α : Type} (P : Program) : Sem α → Option α
  | .pure a => some a
  | .program k => pureRun P (k P)
  | .mark _ k => pureRun P k
  | _ => none

theorem pureRun_sound {α : Type} {P : Program} {s : Sem α} {a : α} (h : pureRun P s = some a) (w : World) : s.run P w = .ok a w := by
  induction s with
  | pure b => simp [pureRun] at h; subst h; rfl
  | program k ih => exact ih P (by simpa [pureRun] using h)
  | mark m k ih => exact ih (by simpa [pureRun] using h)
  | _ => simp [pureRun] at h

mutual
def toV : AV → Option Value
  | .at v => some v
  | .agg cs => match toVs cs with | some l => some (.agg l.toArray) | none => none
  | _ => none
def toVs : List AV → Option (List Value)
  | [] => some []
  | c :: cs => match toV c, toVs cs with | some v, some l => some (v :: l) | _, _ => none
end

mutual
theorem toV_sound {w : World} {mu : Nat → Prop} {π : List (Option PB)} : (A : AV) → (v x : Value) → Rv w mu π A v → toV A = some x → v = x
  | .at y, v, x, h, e => by simp [toV] at e; subst e; exact h
  | .agg cs, v, x, h, e => by
    obtain ⟨vs, rfl, hvs⟩ := h
    simp only [toV] at e
    split at e
    · rename_i l hl
      cases e
      have := toVs_sound cs vs.toList l hvs hl
      rw [← this]
    · cases e
  | .unk, _, _, _, e | .sl .., _, _, _, e | .pp .., _, _, _, e | .hs .., _, _, _, e | .hp .., _, _, _, e | .mp .., _, _, _, e | .tup .., _, _, _, e | .fn .., _, _, _, e => by simp [toV] at e
theorem toVs_sound {w : World} {mu : Nat → Prop} {π : List (Option PB)} : (cs : List AV) → (vs l : List Value) → RvL w mu π cs vs → toVs cs = some l → vs = l
  | [], vs, l, h, e => by simp [toVs] at e; subst e; exact h
  | c :: cs, vs, l, h, e => by
    obtain ⟨v, vs', rfl, h1, h2⟩ := h
    simp only [toVs] at e
    split at e
    · rename_i y l' hy hl'
      cases e
      rw [toV_sound c v y h1 hy, toVs_sound cs vs' l' h2 hl']
    · cases e
end

def tSize (P : Program) (t : TypeId) : Option Nat := match P.info? t with | some i => some i.size | none => none
def tBytes (P : Program) (t : TypeId) : Option Nat := match P.info? t with | some i => some i.bytes | none => none
def tAgg (P : Program) (t : TypeId) : Option Bool := match P.underlying t with | some (.struct _) => some true | some (.array _ _) => some true | some _ => some false | none => none
def tZero (P : Program) (t : TypeId) : Option (List AV) := match P.info? t with | some i => (match i.zero with | some z => some (z.cells.toList.map .at) | none => none) | none => none

def cellsOf : AV → List AV
  | .agg cs => cs
  | .at (.agg a) => a.toList.map .at
  | x => [x]
def isCell : AV → Bool
  | .unk | .agg _ | .tup _ => false
  | .at v => v.oneCell'
  | _ => true

theorem isCell_sound {w : World} {mu : Nat → Prop} {π : List (Option PB)} {A : AV} {v : Value} (h : Rv w mu π A v) (hc : isCell A = true) : v.oneCell' = true := by
  cases A <;> simp only [isCell, Rv] at h hc
  case «at» x => subst h; exact hc
  case sl nl cs len => rcases h with ⟨_, _, _, rfl⟩ | ⟨b, o, cap, rfl, _⟩ | ⟨_, _, a, cap, rfl⟩ <;> rfl
  case pp cs off => obtain ⟨b, o, rfl, _⟩ := h; rfl
  case hs => rcases h with ⟨_, rfl⟩ | ⟨p, a, cap, _, rfl, _⟩ <;> rfl
  case hp => obtain ⟨p, _, rfl⟩ := h; rfl
  case mp => obtain ⟨p, _, rfl⟩ := h; rfl
  case fn => obtain ⟨a, c, rfl, _⟩ := h; rfl
  all_goals simp at hc

theorem RvL_map_at {w : World} {mu : Nat → Prop} {π : List (Option PB)} : ∀ (l : List Value), RvL w mu π (l.map .at) l
  | [] => rfl
  | v :: l => ⟨v, l, rfl, rfl, RvL_map_at l⟩

theorem cellsOf_sound {w : World} {mu : Nat → Prop} {π : List (Option PB)} {A : AV} {v : Value} (h : Rv w mu π A v) (hc : (cellsOf A).all isCell = true) :
    RvL w mu π (cellsOf A) v.cells.toList ∧ ∀ u ∈ v.cells.toList, u.oneCell' = true := by
  have key : RvL w mu π (cellsOf A) v.cells.toList := by
    have one : ∀ {A : AV} {v : Value}, Rv w mu π A v → v.oneCell' = true → RvL w mu π [A] v.cells.toList := by
      intro A v h h1
      have hv : v.cells = #[v] := by cases v <;> simp_all [Value.cells, Value.oneCell']
      rw [hv]; exact ⟨v, [], rfl, h, rfl⟩
    cases A with
    | agg cs => obtain ⟨vs, rfl, h2⟩ := h; exact h2
    | «at» x =>
      cases x with
      | agg a => cases h; exact RvL_map_at a.toList
      | _ => exact one h (isCell_sound h (by simpa [cellsOf] using hc))
    | unk => simp [cellsOf, isCell] at hc
    | tup => simp [cellsOf, isCell] at hc
    | sl nl cs len => exact one h (isCell_sound h rfl)
    | pp => exact one h (isCell_sound h rfl)
    | hs => exact one h (isCell_sound h rfl)
    | hp => exact one h (isCell_sound h rfl)
    | mp => exact one h (isCell_sound h rfl)
    | fn => exact one h (isCell_sound h rfl)
  refine ⟨key, ?_⟩
  generalize cellsOf A = cs at *
  generalize v.cells.toList = vs at *
  clear h
  induction cs generalizing vs with
  | nil => cases key; simp
  | cons c cs ih =>
    obtain ⟨u, us, rfl, h1, h2⟩ := key
    simp only [List.all_cons, Bool.and_eq_true] at hc
    intro x hx
    rcases List.mem_cons.1 hx with rfl | hx
    · exact isCell_sound h1 hc.1
    · exact ih hc.2 us h2 x hx

def setCells : List AV → Nat → List AV → List AV
  | cs, _, [] => cs
  | cs, off, x :: xs => setCells (cs.set off x) (off + 1) xs

def fillA (place : Nat → Option (Nat × Nat)) (cells : List AV) : List (Nat × AV) → Option (List AV)
  | [] => some cells
  | (i, x) :: rest =>
    match place i with
    | none => none
    | some (off, size) =>
      match decide ((cellsOf x).length = size) && decide (off + (cellsOf x).length ≤ cells.length) && (cellsOf x).all isCell with
      | true => fillA place (setCells cells off (cellsOf x)) rest
      | false => none

def partA (P : Program) (t : TypeId) (cs : List AV) (off : Nat) : Option AV :=
  match tAgg P t with
  | some true => (match tSize P t with | some n => some (.agg ((cs.drop off).take n)) | none => none)
  | some false => cs[off]?
  | none => none

def cellAt (H : List Blk) : AV → Option AV
  | .hp i off => match H[i]? with | some (.own cs) => cs[off]? | some (.fix cs) => cs[off]? | _ => none
  | .pp cs off => cs[off]?
  | _ => none
def cellsFrom (H : List Blk) : AV → Option (List AV)
  | .hp i off => match H[i]? with | some (.own cs) => some (cs.drop off) | some (.fix cs) => some (cs.drop off) | _ => none
  | .pp cs off => some (cs.drop off)
  | _ => none
def loadA (P : Program) (H : List Blk) (t : TypeId) (a : AV) : Option AV :=
  match tAgg P t with
  | some true => (match tSize P t, cellsFrom H a with | some n, some cs => (match decide (n ≤ cs.length) with | true => some (.agg (cs.take n)) | false => none) | _, _ => none)
  | some false => cellAt H a
  | none => none
def storeA (P : Program) (H : List Blk) (t : TypeId) (a x : AV) : Option (List (Nat × Blk)) :=
  match a with
  | .hp i off => match H[i]?, tSize P t with
    | some (.own cs), some n => (match decide ((cellsOf x).length = n) && decide (off + n ≤ cs.length) && (cellsOf x).all isCell with | true => some [(i, .own (setCells cs off (cellsOf x)))] | false => none)
    | _, _ => none
  | _ => none

def fieldsOf (P : Program) (t : TypeId) : Option (List Field) := match P.underlying t with | some (.struct fs) => some fs.toList | _ => none

/-- The cells of a slice. -/
def sliceCells (H : List Blk) (es : Nat) : AV → Option (List AV × Nat)
  | .at (.slice none 0 0) => some ([], 0)
  | .sl _ cs len => (match decide (cs.length = len * es) with | true => some (cs, len) | false => none)
  | .hs i off len _ => match H[i]? with
    | some (.own cs) => (match decide (off + len * es ≤ cs.length) with | true => some ((cs.drop off).take (len * es), len) | false => none)
    | some (.fix cs) => (match decide (off + len * es ≤ cs.length) with | true => some ((cs.drop off).take (len * es), len) | false => none)
    | _ => none
  | _ => none

def intA : AV → Option Int | .at (.int _ n) => some n | _ => none
def kindA : AV → Option (IntKind × Int) | .at (.int k n) => some (k, n) | _ => none

/-- Pointers to where. -/
def plusA (n : Nat) : AV → Option AV
  | .hp i off => some (.hp i (off + n))
  | .pp cs off => some (.pp cs (off + n))
  | _ => none

def indexAddrA (P : Program) (t : TypeId) (x ix : AV) : Option AV :=
  match P.underlying t, intA ix with
  | some (.slice e), some i => (match tSize P e, x with
    | some n, .sl _ cs len => (match decide (0 ≤ i) && decide (i < len) with | true => some (.pp cs (i.toNat * n)) | false => none)
    | some n, .hs b off len _ => (match decide (0 ≤ i) && decide (i < len) with | true => some (.hp b (off + i.toNat * n)) | false => none)
    | _, _ => none)
  | some (.array len e), some i => (match tSize P e with
    | some n => (match decide (0 ≤ i) && decide (i < len) with | true => plusA (i.toNat * n) x | false => none)
    | none => none)
  | _, _ => none

def fieldAddrA (P : Program) (s : TypeId) (x : AV) (f : Nat) : Option AV :=
  match P.underlying s with
  | some (.struct fs) => (match fs[f]? with
    | some fd => (match tSize P fd.type with | some 0 => none | some _ => plusA fd.offset x | none => none)
    | none => none)
  | _ => none

def fieldA (P : Program) (s : TypeId) (x : AV) (f : Nat) : Option AV :=
  match P.underlying s, x with
  | some (.struct fs), .agg cs => (match fs[f]? with | some fd => partA P fd.type cs fd.offset | none => none)
  | some (.struct fs), .at (.agg a) => (match fs[f]? with | some fd => partA P fd.type (a.toList.map .at) fd.offset | none => none)
  | _, _ => none

def indexA (P : Program) (t : TypeId) (x ix : AV) : Option AV :=
  match P.underlying t, x, intA ix with
  | some (.array len e), .agg cs, some i => (match tSize P e, decide (0 ≤ i) && decide (i < len) with | some n, true => partA P e cs (i.toNat * n) | _, _ => none)
  | some (.array len e), .at (.agg a), some i => (match tSize P e, decide (0 ≤ i) && decide (i < len) with | some n, true => partA P e (a.toList.map .at) (i.toNat * n) | _, _ => none)
  | some .string, .at s, some _ => (match toV ix with | some i => (pureRun P (Instr.index t s i)).map .at | none => none)
  | _, _, _ => none

def boundsA (len : Nat) (lo hi : Option AV) : Option (Nat × Nat) :=
  match (match lo with | none => some 0 | some a => intA a), (match hi with | none => some (len : Int) | some a => intA a) with
  | some l, some h => (match decide (0 ≤ l) && decide (l ≤ h) && decide (h ≤ len) with | true => some (l.toNat, h.toNat) | false => none)
  | _, _ => none

def sliceA (P : Program) (H : List Blk) (t : TypeId) (x : AV) (lo hi : Option AV) : Option AV :=
  match P.underlying t with
  | some (.slice e) => (match tSize P e, x with
    | some n, .sl nl cs len => (match boundsA len lo hi with | some (l, h) => some (.sl nl ((cs.drop (l * n)).take ((h - l) * n)) (h - l)) | none => none)
    | some n, .hs b off len es => (match boundsA len lo hi, decide (es = n) with | some (l, h), true => some (.hs b (off + l * n) (h - l) n) | _, _ => none)
    | some _, .at (.slice none 0 0) => (match boundsA 0 lo hi with | some _ => some (.at (.slice none 0 0)) | none => none)
    | _, _ => none)
  | some (.array len e) => (match tSize P e, x with
    | some n, .hp b off => (match boundsA len lo hi, H[b]? with
      | some (l, h), some (.own cs) => (match decide (off + len * n ≤ cs.length) && decide (0 < n) with | true => some (.hs b (off + l * n) (h - l) n) | false => none)
      | _, _ => none)
    | some n, .pp cs off => (match boundsA len lo hi with | some (l, h) => some (.sl false ((cs.drop (off + l * n)).take ((h - l) * n)) (h - l)) | none => none)
    | _, _ => none)
  | _ => none

def zerosA (z : List AV) : Nat → List AV
  | 0 => []
  | n + 1 => z ++ zerosA z n

def notNilA (P : Program) (t : TypeId) (a : AV) (v : Value) : Bool :=
  match P.underlying t, a, v with
  | some (.slice _), .sl nl _ len, .slice none 0 0 => !nl || decide (0 < len)
  | some (.slice _), .hs _ _ len _, .slice none 0 0 => decide (0 < len)
  | some (.pointer _), .hp _ _, .pointer none => true
  | some (.pointer _), .pp _ _, .pointer none => true
  | _, _, _ => false

inductive ORes where
  | pure (v : AV)
  | eff (v : AV) (ws : List (Nat × Blk))
  | call (f : FuncId) (args : List AV)

def ORes.ofP : Option AV → Option ORes | some v => some (.pure v) | none => none

def updAll (H : List Blk) : List (Nat × Blk) → List Blk
  | [] => H
  | (i, x) :: ws => updAll (upd H i x) ws

/-- What is written behind the slice 's': a new block. -/
def appendA (H : List Blk) (nid n bytes : Nat) (s x : AV) : Option ORes :=
  match sliceCells H n x with
  | none => none
  | some (new, m) =>
    match s with
    | .at (.slice none 0 0) => (match decide (m * bytes ≤ 140737488355328) && decide (m ≤ 4611686018427387904) && decide (0 < n) with
      | true => some (.eff (.hs nid 0 m n) [(nid, .own new)])
      | false => none)
    | .sl nl cs len => (match decide (m = 0) with | true => some (.pure (.sl nl cs len)) | false => none)
    | .hs i off len es => match H[i]? with
      | some (.own cs) => (match decide (es = n) && decide (0 < n) && decide (off + len * n ≤ cs.length) && decide ((len + m) * bytes ≤ 140737488355328) && decide (len + m ≤ 4611686018427387904) with
        | true => some (.eff (.hs nid 0 (len + m) n) [(i, .dead), (nid, .own ((cs.drop off).take (len * n) ++ new))])
        | false => none)
      | _ => none
    | _ => none

def lenA (P : Program) (t : TypeId) (x : AV) : Option AV :=
  match P.underlying t, x with
  | some (.slice _), .sl _ _ len => some (.at (.int .i64 len))
  | some (.slice _), .hs _ _ len _ => some (.at (.int .i64 len))
  | some (.slice _), .at (.slice none 0 0) => some (.at (.int .i64 0))
  | some .string, .at (.string s) => some (.at (.int .i64 s.size))
  | some (.array n _), _ => some (.at (.int .i64 n))
  | _, _ => none

/-- Is a number one of its kind? (By literals: a kind's least and greatest number as powers cost the kernel much.) -/
def inKind : IntKind → Int → Bool
  | .i64, n => decide (-9223372036854775808 ≤ n) && decide (n ≤ 9223372036854775807)
  | .u64, n => decide (0 ≤ n) && decide (n ≤ 18446744073709551615)
  | .u32, n => decide (0 ≤ n) && decide (n ≤ 4294967295)
  | .u8, n => decide (0 ≤ n) && decide (n ≤ 255)
  | _, _ => false
def wrapF (k : IntKind) (n : Int) : Int := match inKind k n with | true => n | false => k.wrap n
theorem wrapF_eq (k : IntKind) (n : Int) : wrapF k n = k.wrap n := by
  unfold wrapF
  split
  · rename_i h
    cases k <;> simp only [inKind, Bool.and_eq_true, decide_eq_true_eq, Bool.false_eq_true] at h
    · rw [IntKind.wrap_i64]; omega
    · rw [IntKind.wrap_u8]; omega
    · rw [IntKind.wrap_u32]; omega
    · rw [IntKind.wrap_u64]; omega
  · rfl

/-- The commonest operations on two integers of one kind. -/
def intOpA (op : BinOp) (k : IntKind) (x y : Int) : Option Value :=
  match op with
  | .add => some (.int k (wrapF k (x + y)))
  | .sub => some (.int k (wrapF k (x - y)))
  | .mul => some (.int k (wrapF k (x * y)))
  | .quo => (match decide (y = 0) with | true => none | false => some (.int k (wrapF k (x.tdiv y))))
  | .rem => (match decide (y = 0) with | true => none | false => some (.int k (x.tmod y)))
  | .eql => some (.bool (x == y))
  | .neq => some (.bool (x != y))
  | .lss => some (.bool (decide (x < y)))
  | .leq => some (.bool (decide (x ≤ y)))
  | .gtr => some (.bool (decide (x > y)))
  | .geq => some (.bool (decide (x ≥ y)))
  | _ => none

theorem intOpA_sound {P : Program} {op : BinOp} {t : TypeId} {a b : Operand} {k : IntKind} {x y : Int} {v : Value} (h : intOpA op k x y = some v) (w : World) :
    (do eqGuard op t a b (.int k x) (.int k y); binOp op t (.int k x) (.int k y) : Sem Value).run P w = .ok v w := by
  have hg : (eqGuard op t a b (.int k x) (.int k y)).run P w = .ok () w := by cases op <;> simp [eqGuard]
  simp only [Sem.run_bind, hg, Result.andThen_ok]
  cases op <;> simp only [intOpA] at h
  case add => cases h; simp [binOp, Op.intArith, wrapF_eq]
  case sub => cases h; simp [binOp, Op.intArith, wrapF_eq]
  case mul => cases h; simp [binOp, Op.intArith, wrapF_eq]
  case quo =>
    split at h
    · cases h
    · rename_i h0
      cases h
      have : ¬ y = 0 := by simpa using h0
      simp [binOp, Op.intDiv, this, wrapF_eq]
  case rem =>
    split at h
    · cases h
    · rename_i h0
      cases h
      have : ¬ y = 0 := by simpa using h0
      simp [binOp, Op.intDiv, this]
  case eql => cases h; simp [binOp, Op.intCmp]
  case neq => cases h; simp [binOp, Op.intCmp]
  case lss => cases h; simp [binOp, Op.intCmp]
  case leq => cases h; simp [binOp, Op.intCmp]
  case gtr => cases h; simp [binOp, Op.intCmp]
  case geq => cases h; simp [binOp, Op.intCmp]
  all_goals cases h

def binSlow (P : Program) (op : BinOp) (t : TypeId) (x y : Operand) (a b : AV) : Option AV :=
  match toV a, toV b with
  | some u, some v => (match pureRun P (do eqGuard op t x y u v; binOp op t u v) with | some r => some (.at r) | none => none)
  | none, some v => (match notNilA P t a v, op with
    | true, .eql => some (.at (.bool false))
    | true, .neq => some (.at (.bool true))
    | _, _ => none)
  | _, _ => none

def IntKind.beqA : IntKind → IntKind → Bool
  | .i64, .i64 | .u64, .u64 | .u32, .u32 | .u8, .u8 | .i32, .i32 | .i16, .i16 | .i8, .i8 | .u16, .u16 => true
  | _, _ => false
theorem IntKind.beqA_eq {k l : IntKind} (h : IntKind.beqA k l = true) : k = l := by cases k <;> cases l <;> simp_all [IntKind.beqA]

def aggC : AV → Option (List AV)
  | .agg cs => some cs
  | .at (.agg a) => some (a.toList.map .at)
  | _ => none
def eqFs (P : Program) (f : TypeId → AV → AV → Option Bool) (xs ys : List AV) : List Field → Option Bool
  | [] => some true
  | g :: fs => match decide (g.name = "_") with
    | true => eqFs P f xs ys fs
    | false => match partA P g.type xs g.offset, partA P g.type ys g.offset with
      | some a, some b => (match f g.type a b, eqFs P f xs ys fs with | some r, some s => some (r && s) | _, _ => none)
      | _, _ => none
def eqEl (P : Program) (f : AV → AV → Option Bool) (e : TypeId) (n : Nat) (xs ys : List AV) : Nat → Nat → Option Bool
  | 0, _ => some true
  | m + 1, i => match partA P e xs (i * n), partA P e ys (i * n) with
    | some a, some b => (match f a b, eqEl P f e n xs ys m (i + 1) with | some r, some s => some (r && s) | _, _ => none)
    | _, _ => none
/-- '==' of two structs or arrays, part by part. -/
def eqAg (P : Program) : Nat → TypeId → AV → AV → Option Bool
  | 0, _, _, _ => none
  | d + 1, t, a, b => match P.underlying t with
    | some (.int _) => (match a, b with | .at (.int k x), .at (.int k' y) => (match IntKind.beqA k k' with | true => some (x == y) | false => none) | _, _ => none)
    | some .bool => (match a, b with | .at (.bool x), .at (.bool y) => some (x == y) | _, _ => none)
    | some (.struct fs) => (match P.stoodInHeld t, aggC a, aggC b with | false, some xs, some ys => eqFs P (eqAg P d) xs ys fs.toList | _, _, _ => none)
    | some (.array n e) => (match tSize P e, aggC a, aggC b with | some k, some xs, some ys => eqEl P (eqAg P d e) e k xs ys n 0 | _, _, _ => none)
    | _ => none
def eqAgOp (P : Program) (op : BinOp) (t : TypeId) (a b : AV) : Option AV :=
  match op, P.eqGuardType P.depth t, aggC a, aggC b with
  | .eql, false, some _, some _ => (match eqAg P 8 t a b with | some r => some (.at (.bool r)) | none => none)
  | .neq, false, some _, some _ => (match eqAg P 8 t a b with | some r => some (.at (.bool (!r))) | none => none)
  | _, _, _, _ => none

def binOpA (P : Program) (op : BinOp) (t : TypeId) (x y : Operand) (a b : AV) : Option AV :=
  match a, b with
  | .at (.int k m), .at (.int k' n) => (match IntKind.beqA k k' with
    | true => (match intOpA op k m n with | some r => some (.at r) | none => binSlow P op t x y (.at (.int k m)) (.at (.int k' n)))
    | false => binSlow P op t x y (.at (.int k m)) (.at (.int k' n)))
  | .agg cs, b => eqAgOp P op t (.agg cs) b
  | .at (.agg v), .agg cs => eqAgOp P op t (.at (.agg v)) (.agg cs)
  | a, b => binSlow P op t x y a b

def convA (P : Program) (src dst : TypeId) (a : AV) : Option Value :=
  match a with
  | .at (.int _ n) => (match P.underlying src, P.underlying dst with
    | some _, some (.int k) => some (.int k (wrapF k n))
    | _, _ => none)
  | _ => none

def pickA (t : Bool) : AV → AV → AV
  | .at (.bool x), .at (.bool y) => .at (.bool (if t then x else y))
  | a, b => if t then a else b

def optV (f : Value → Option Value) (a : AV) : Option ORes :=
  match toV a with
  | some v => (match f v with | some r => some (.pure (.at r)) | none => none)
  | none => none

def builtinA (P : Program) (H : List Blk) (nid : Nat) (b : Builtin) (argTypes : Array TypeId) (type : TypeId) (args : List AV) : Option ORes :=
  match b, args with
  | .len, [x] => (match argTypes[0]? with | some t => ORes.ofP (lenA P t x) | none => none)
  | .append, [s, x] => (match argTypes[0]?, argTypes[1]? with
    | some t, some t' => (match P.underlying t, P.underlying t' with
      | some (.slice e), some (.slice _) => (match tSize P e, tBytes P e, tZero P e with | some n, some by_, some z => (match decide (z.length = n) with | true => appendA H nid n by_ s x | false => none) | _, _, _ => none)
      | _, _ => none)
    | _, _ => none)
  | .min, args => (match toVs args with | some vs => (match pureRun P (Builtin.min_ argTypes type vs.toArray) with | some r => some (.pure (.at r)) | none => none) | none => none)
  | .max, args => (match toVs args with | some vs => (match pureRun P (Builtin.max_ argTypes type vs.toArray) with | some r => some (.pure (.at r)) | none => none) | none => none)
  | _, _ => none

def placesA (P : Program) : List Field → Option (List (Nat × Nat))
  | [] => some []
  | f :: fs => match tSize P f.type, placesA P fs with | some n, some l => some ((f.offset, n) :: l) | _, _ => none

def callable (P : Program) (f : FuncId) : Bool := match P.funcs[f]? with | some fn => fn.body.isSome | none => false

def opPick (ρ : Operand → AV) (c : Operand) (a : Operand) (b : Operand) : Option ORes :=
  (match ρ c with | .at (.bool t) => some (.pure (pickA t (ρ a) (ρ b))) | _ => none)

def opAlloc (P : Program) (nid : Nat) (t : TypeId) : Option ORes :=
  (match tZero P t with
    | some z => (match z.all isCell with | true => some (.eff (.hp nid 0) [(nid, .own z)]) | false => none)
    | none => none)

def opBox (ρ : Operand → AV) (nid : Nat) (x : Operand) : Option ORes :=
  (match (cellsOf (ρ x)).all isCell with | true => some (.eff (.hp nid 0) [(nid, .own (cellsOf (ρ x)))]) | false => none)

def opBuild (P : Program) (ρ : Operand → AV) (t : TypeId) (parts : Array (Nat × Operand)) : Option ORes :=
  (match tZero P t, P.underlying t with
    | some z, some (.struct fs) => (match placesA P fs.toList with
      | some pl => (match z.all isCell with | true => (match fillA (fun i => pl[i]?) z (parts.toList.map fun p => (p.1, ρ p.2)) with | some cs => some (.pure (.agg cs)) | none => none) | false => none)
      | none => none)
    | some z, some (.array _ e) => (match tSize P e with
      | some n => (match z.all isCell with | true => (match fillA (fun i => some (i * n, n)) z (parts.toList.map fun p => (p.1, ρ p.2)) with | some cs => some (.pure (.agg cs)) | none => none) | false => none)
      | none => none)
    | _, _ => none)

def opBuildSlice (P : Program) (ρ : Operand → AV) (nid : Nat) (t : TypeId) (len : Nat) (parts : Array (Nat × Operand)) : Option ORes :=
  (match P.underlying t with
    | some (.slice e) => (match tSize P e, tZero P e with
      | some n, some z => (match decide (len * n ≤ 16777216) && decide (z.length = n) && z.all isCell with
        | true => (match fillA (fun i => some (i * n, n)) (zerosA z len) (parts.toList.map fun p => (p.1, ρ p.2)) with
          | some cs => some (.eff (.hs nid 0 len n) [(nid, .own cs)]) | none => none)
        | false => none)
      | _, _ => none)
    | _ => none)

def opStore (P : Program) (ρ : Operand → AV) (H : List Blk) (t : TypeId) (a : Operand) (x : Operand) : Option ORes :=
  (match storeA P H t (ρ a) (ρ x) with | some ws => some (.eff .unk ws) | none => none)

def opNilCheck (ρ : Operand → AV) (x : Operand) : Option ORes :=
  (match ρ x with | .hp b off => some (.pure (.hp b off)) | .pp cs off => some (.pure (.pp cs off)) | .fn f a c => some (.pure (.fn f a c)) | _ => none)

def opConvert (P : Program) (ρ : Operand → AV) (src : TypeId) (dst : TypeId) (x : Operand) : Option ORes :=
  (match convA P src dst (ρ x) with | some v => some (.pure (.at v)) | none => optV (fun v => pureRun P (convert src dst v)) (ρ x))

def opMakeSlice (P : Program) (ρ : Operand → AV) (nid : Nat) (t : TypeId) (l : Operand) (c : Operand) : Option ORes :=
  (match P.underlying t, kindA (ρ l), kindA (ρ c) with
    | some (.slice e), some (_, l), some (_, c) => (match tSize P e, tBytes P e, tZero P e with
      | some n, some by_, some z => (match decide (0 ≤ l) && decide (l ≤ c) && decide ((by_ : Int) * c ≤ 281474976710656) && decide (c ≤ 9223372036854775807) && decide (z.length = n) && decide (0 < n) && z.all isCell with
        | true => some (.eff (.hs nid 0 l.toNat n) [(nid, .own (zerosA z c.toNat))])
        | false => none)
      | _, _, _ => none)
    | _, _, _ => none)

def opSlice (P : Program) (ρ : Operand → AV) (H : List Blk) (t : TypeId) (x : Operand) (lo : Option Operand) (hi : Option Operand) : Option ORes :=
  (match ρ x with
    | .at (.string s) => (match (match lo with | none => some none | some a => (toV (ρ a)).map some), (match hi with | none => some none | some a => (toV (ρ a)).map some) with
      | some l, some h => (match pureRun P (Instr.sliceAt t (.string s) l h none) with | some r => some (.pure (.at r)) | none => none)
      | _, _ => none)
    | y => ORes.ofP (sliceA P H t y (lo.map ρ) (hi.map ρ)))

def opCall (P : Program) (ρ : Operand → AV) (H : List Blk) (nid : Nat) (c : Call) (oty : TypeId) : Option ORes :=
  (match c.callee with
    | .value f => (match ρ f with
      | .fn g fs cs => (match callable P g with | true => some (.call g (fs ++ c.args.toList.map ρ ++ cs)) | false => none)
      | _ => none)
    | .builtin b => builtinA P H nid b c.argTypes oty (c.args.toList.map ρ)
    | _ => none)

def evalOp (P : Program) (ρ : Operand → AV) (H : List Blk) (nid : Nat) (o : Oper) : Option ORes :=
  match o.op with
  | .move x => some (.pure (ρ x))
  | .assign x => some (.pure (ρ x))
  | .pick c a b => opPick ρ c a b
  | .alloc t => opAlloc P nid t
  | .box _ x => opBox ρ nid x
  | .build t parts => opBuild P ρ t parts
  | .buildSlice t len parts => opBuildSlice P ρ nid t len parts
  | .load t a => ORes.ofP (loadA P H t (ρ a))
  | .store t a x => opStore P ρ H t a x
  | .nilCheck x => opNilCheck ρ x
  | .binOp op t x y _ => ORes.ofP (binOpA P op t x y (ρ x) (ρ y))
  | .unOp op _ x => optV (fun v => pureRun P (Op.unary op v)) (ρ x)
  | .convert src dst x => opConvert P ρ src dst x
  | .makeFunc (.func f) fs cs => some (.pure (.fn f (fs.toList.map ρ) (cs.toList.map ρ)))
  | .makeSlice t l c => opMakeSlice P ρ nid t l c
  | .slice t x lo hi none => opSlice P ρ H t x lo hi
  | .fieldAddr s x f => ORes.ofP (fieldAddrA P s (ρ x) f)
  | .field s x f => ORes.ofP (fieldA P s (ρ x) f)
  | .indexAddr t x ix => ORes.ofP (indexAddrA P t (ρ x) (ρ ix))
  | .index t x ix => ORes.ofP (indexA P t (ρ x) (ρ ix))
  | .extract t ix => (match ρ t with | .tup vs => ORes.ofP vs[ix]? | _ => none)
  | .call c => opCall P ρ H nid c o.type
  | _ => none

def ptrBlk : AV → List Nat
  | .hp i _ => [i]
  | .hs i _ _ _ => [i]
  | _ => []
/-- The blocks that an operation looks into. -/
def readsOf (ρ : Operand → AV) (o : Oper) : List Nat :=
  match o.op with
  | .load _ a => ptrBlk (ρ a)
  | .store _ a _ => ptrBlk (ρ a)
  | .slice _ x _ _ _ => ptrBlk (ρ x)
  | .call c => c.args.toList.flatMap fun x => ptrBlk (ρ x)
  | _ => []
end Go.Eng
