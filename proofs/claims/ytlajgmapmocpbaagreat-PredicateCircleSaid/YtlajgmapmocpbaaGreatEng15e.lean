/- The engine, part 15: a function that is answered from outside: by its body, or by a table of answers. -/
import Derived.Test.YtlajgmapmocpbaaGreatEng14e
set_option linter.unusedSimpArgs false
set_option linter.unusedVariables false
namespace Go.Eng
open Go Go.RowKit

section
variable {P : Program}

/-- A function's answer that leads to no own block. -/
noncomputable def runPure (P : Program) (call : CallF) (n : Nat) (fn : Func) (args : List AV) : Option AV :=
  match evalBody P call n fn args [] with
  | some (r, G) => (match snapA G (fun _ => true) n r with | some r' => (match idsOf r' with | [] => some r' | _ => none) | none => none)
  | none => none

theorem runPure_sound (hng : NoNG P) (hm : P.follows .mixedOrders = true) {call : CallF} (hcall : CallsOk P call) {n : Nat} {f : FuncId} {fn : Func} (hf : P.funcs[f]? = some fn) {args : List AV} {r : AV} (h : runPure P call n fn args = some r)
    (out : Nat → Prop) (w : World) (vs : List Value) (hout : ∀ b, out b → b < w.heap.size) (ha : RvL w out [] args vs) :
    Calls P f vs.toArray w fun e w' => ∃ u, e = .returned u ∧ Ext (Lo w.heap.size) w w' out out [] [] ∧ Rv w' out [] r u := by
  unfold runPure at h
  split at h
  · rename_i r0 G hr0
    split at h
    · rename_i r' hr'
      split at h
      · cases h
        have hI0 : Inv out (Lo w.heap.size) w [] [] := ⟨rfl, fun _ h => h, hout, by simp, by simp, by simp⟩
        refine (evalBody_sound hng hm hcall hf hr0 hI0 (by rw [muOf_nil]; exact ha)).mono ?_
        rintro e w' ⟨u, π', rfl, k1, k2, k3⟩
        rw [muOf_nil] at k1
        refine ⟨u, rfl, ⟨k1.low, k1.size, fun b hb hnb => ⟨k1.low b hb, hnb⟩, by simp, k1.os, k1.tape, k1.output⟩, ?_⟩
        have hL : Look w' (muOf out π' G) out π' G (fun _ => true) := by
          intro b p cs _ hbl hp
          refine ⟨blk_cells k2 hbl hp, fun ho => ?_⟩
          have hlive : ∃ y, G[b]? = some y ∧ y.isLive = true := by rcases hbl with h | h <;> exact ⟨_, h, rfl⟩
          obtain ⟨y, hy, hyl⟩ := hlive
          exact (k2.base b y p hy hp hyl).1 (hout _ ho)
        exact snapA_sound hL (fun b hb => .inl hb) n r0 r u k3 hr'
      · cases h
    · cases h
  · cases h

/-- A function's contract, from its body. -/
theorem ext_of_body (hng : NoNG P) (hm : P.follows .mixedOrders = true) {inl : FuncId → Bool} {X : FuncId → Option (List AV → Option AV)} (hX : ∀ f F, X f = some F → ExtOk P f F) {f : FuncId} {fn : Func} (hf : P.funcs[f]? = some fn) {F : List AV → Option AV}
    (h : ∀ args r, F args = some r → ∃ n, runPure P (evalCall P inl X n) n fn args = some r) : ExtOk P f F := by
  intro args r hr out w vs hout ha
  obtain ⟨n, hn⟩ := h args r hr
  exact runPure_sound hng hm (evalCall_sound hng hm hX n) hf hn out w vs hout ha

/-! Tables. -/
noncomputable def ValueB : Value → Value → Bool
  | .bool a, .bool b => a == b
  | .int k a, .int l b => IntKind.beqA k l && decide (a = b)
  | .string a, .string b => decide (a = b)
  | .slice none 0 0, .slice none 0 0 => true
  | .pointer none, .pointer none => true
  | .nilFunc, .nilFunc => true
  | _, _ => false
theorem ValueB_eq {a b : Value} (h : ValueB a b = true) : a = b := by
  unfold ValueB at h
  split at h
  · simp_all
  · simp only [Bool.and_eq_true, decide_eq_true_eq] at h
    rw [IntKind.beqA_eq h.1, h.2]
  · simp_all
  · rfl
  · rfl
  · rfl
  · cases h

mutual
noncomputable def AVB : AV → AV → Bool
  | .at a, .at b => ValueB a b
  | .sl nl cs len, .sl nl' cs' len' => nl == nl' && decide (len = len') && AVBL cs cs'
  | .agg cs, .agg cs' => AVBL cs cs'
  | .fn f fs cs, .fn f' fs' cs' => decide (f = f') && AVBL fs fs' && AVBL cs cs'
  | .pp cs off, .pp cs' off' => decide (off = off') && AVBL cs cs'
  | _, _ => false
noncomputable def AVBL : List AV → List AV → Bool
  | [], [] => true
  | a :: as, b :: bs => AVB a b && AVBL as bs
  | _, _ => false
end
mutual
theorem AVB_eq : (a b : AV) → AVB a b = true → a = b
  | .at a, y, h => by cases y <;> simp only [AVB] at h <;> first | (cases h; done) | rw [ValueB_eq h]
  | .sl nl cs len, y, h => by
    cases y <;> simp only [AVB] at h <;> first | (cases h; done) | skip
    simp only [Bool.and_eq_true, decide_eq_true_eq, beq_iff_eq] at h
    rw [h.1.1, h.1.2, AVBL_eq _ _ h.2]
  | .agg cs, y, h => by cases y <;> simp only [AVB] at h <;> first | (cases h; done) | rw [AVBL_eq _ _ h]
  | .fn f fs cs, y, h => by
    cases y <;> simp only [AVB] at h <;> first | (cases h; done) | skip
    simp only [Bool.and_eq_true, decide_eq_true_eq] at h
    rw [h.1.1, AVBL_eq _ _ h.1.2, AVBL_eq _ _ h.2]
  | .pp cs off, y, h => by
    cases y <;> simp only [AVB] at h <;> first | (cases h; done) | skip
    simp only [Bool.and_eq_true, decide_eq_true_eq] at h
    rw [h.1, AVBL_eq _ _ h.2]
  | .unk, y, h => by simp [AVB] at h
  | .hs .., y, h => by simp [AVB] at h
  | .hp .., y, h => by simp [AVB] at h
  | .mp _, y, h => by simp [AVB] at h
  | .tup _, y, h => by simp [AVB] at h
theorem AVBL_eq : (a b : List AV) → AVBL a b = true → a = b
  | [], [], _ => rfl
  | [], _ :: _, h => by simp [AVBL] at h
  | _ :: _, [], h => by simp [AVBL] at h
  | a :: as, b :: bs, h => by
    simp only [AVBL, Bool.and_eq_true] at h
    rw [AVB_eq a b h.1, AVBL_eq as bs h.2]
end

/-- A table's row. -/
structure Row where
  f : FuncId
  args : List AV
  r : AV

noncomputable def findR (f : FuncId) (args : List AV) : List Row → Option AV
  | [] => none
  | e :: es => match Nat.beq e.f f with
    | true => (match AVBL e.args args with | true => some e.r | false => findR f args es)
    | false => findR f args es

theorem findR_some {f : FuncId} {args : List AV} {r : AV} : ∀ (T : List Row), findR f args T = some r → ∃ e ∈ T, e.f = f ∧ e.args = args ∧ e.r = r
  | [], h => by simp [findR] at h
  | e :: es, h => by
    simp only [findR] at h
    split at h
    · rename_i h1
      split at h
      · rename_i h2
        cases h
        exact ⟨e, by simp, Nat.eq_of_beq_eq_true h1, AVBL_eq _ _ h2, rfl⟩
      · obtain ⟨e', m, r⟩ := findR_some es h; exact ⟨e', by simp [m], r⟩
    · obtain ⟨e', m, r⟩ := findR_some es h; exact ⟨e', by simp [m], r⟩

/-- What a table says, is so. -/
def RowOk (P : Program) (e : Row) : Prop := ∀ (out : Nat → Prop) (w : World) (vs : List Value), (∀ b, out b → b < w.heap.size) → RvL w out [] e.args vs →
    Calls P e.f vs.toArray w fun e' w' => ∃ u, e' = .returned u ∧ Ext (Lo w.heap.size) w w' out out [] [] ∧ Rv w' out [] e.r u

/-- Functions answered by a table, the others by 'X'. -/
noncomputable def extT (mf : FuncId → Bool) (T : List Row) (X : FuncId → Option (List AV → Option AV)) : FuncId → Option (List AV → Option AV) :=
  fun f => match mf f with | true => some (fun args => findR f args T) | false => X f

theorem extT_ok {mf : FuncId → Bool} {T : List Row} {X : FuncId → Option (List AV → Option AV)} (hT : ∀ e ∈ T, RowOk P e) (hX : ∀ f F, X f = some F → ExtOk P f F) : ∀ f F, extT mf T X f = some F → ExtOk P f F := by
  intro f F h
  unfold extT at h
  split at h
  · cases h
    intro args r hr
    obtain ⟨e, he, rfl, rfl, rfl⟩ := findR_some T hr
    exact hT e he
  · exact hX f F h

/-- One row after another: each by those before it. -/
noncomputable def checkT (P : Program) (mf : FuncId → Bool) (X : FuncId → Option (List AV → Option AV)) (n : Nat) : List Row → List Row → Bool
  | _, [] => true
  | T, e :: es => match P.funcs[e.f]? with
    | some fn => (match runPure P (evalCall P (fun _ => false) (extT mf T X) n) n fn e.args with
      | some r => (match AVB' r e.r with | true => checkT P mf X n (e :: T) es | false => false)
      | none => false)
    | none => false
where
  AVB' : AV → AV → Bool
  | .tup cs, .tup cs' => AVBL cs cs'
  | a, b => AVB a b

theorem checkT_sound (hng : NoNG P) (hm : P.follows .mixedOrders = true) {mf : FuncId → Bool} {X : FuncId → Option (List AV → Option AV)} (hX : ∀ f F, X f = some F → ExtOk P f F) {n : Nat} :
    ∀ (es T : List Row), (∀ e ∈ T, RowOk P e) → checkT P mf X n T es = true → ∀ e ∈ es, RowOk P e
  | [], _, _, _ => by simp
  | e :: es, T, hT, h => by
    simp only [checkT] at h
    split at h
    · rename_i fn hfn
      split at h
      · rename_i r hr
        split at h
        · rename_i heq
          have hre : r = e.r := by
            unfold checkT.AVB' at heq
            split at heq
            · rename_i cs cs' e1 e2; rw [AVBL_eq _ _ heq, ← e2]
            · exact AVB_eq _ _ heq
          subst hre
          have h1 : RowOk P e := by
            intro out w vs hout ha
            exact runPure_sound hng hm (evalCall_sound hng hm (extT_ok hT hX) n) hfn hr out w vs hout ha
          have h2 := checkT_sound hng hm hX es (e :: T) (fun x hx => by exact (List.mem_cons.1 hx).elim (fun q => q ▸ h1) (hT x)) h
          intro x hx
          rcases List.mem_cons.1 hx with rfl | hx
          · exact h1
          · exact h2 x hx
        · cases h
      · cases h
    · cases h
end
end Go.Eng
