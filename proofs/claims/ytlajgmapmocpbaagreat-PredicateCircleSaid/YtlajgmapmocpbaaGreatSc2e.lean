/- The engine, part 20: contracts of functions, what a caller makes of them, and how a state may be known by less. -/
import Derived.Test.YtlajgmapmocpbaaGreatSc1e
set_option linter.unusedSimpArgs false
set_option linter.unusedVariables false
set_option linter.unusedVariables false
namespace Go.Eng
open Go Go.RowKit
variable {K : Nat}

section
variable {w w' : World} {mu mu' : Nat → Prop} {π π' : List (Option PB)}
mutual
/-- What names no own block reads under any numbering. -/
theorem pure_any (hmu : ∀ b, mu' b → mu b) : (A : AV) → (v : Value) → idsOf A = [] → Rv w mu π A v → Rv w mu' π' A v
  | .unk, _, _, _ => trivial
  | .at x, v, _, h => h
  | .sl nl cs len, v, _, h => (Rv.ext (B := fun _ => False) (w' := w) (π := []) (π' := []) ⟨fun _ _ => rfl, Nat.le_refl _, fun b _ hb => ⟨rfl, fun hb' => hb (hmu b hb')⟩, fun _ _ h => h, rfl, rfl, rfl⟩ (.sl nl cs len) v h)
  | .pp cs off, v, _, h => (Rv.ext (B := fun _ => False) (w' := w) (π := []) (π' := []) ⟨fun _ _ => rfl, Nat.le_refl _, fun b _ hb => ⟨rfl, fun hb' => hb (hmu b hb')⟩, fun _ _ h => h, rfl, rfl, rfl⟩ (.pp cs off) v h)
  | .agg cs, v, hr, h => by
    obtain ⟨vs, rfl, hv⟩ := h
    exact ⟨vs, rfl, pureL_any hmu cs _ (by simpa [idsOf] using hr) hv⟩
  | .tup cs, v, hr, h => by
    obtain ⟨vs, rfl, hv⟩ := h
    exact ⟨vs, rfl, pureL_any hmu cs _ (by simpa [idsOf] using hr) hv⟩
  | .fn f fs cs, v, hr, h => by
    obtain ⟨a, c, rfl, h1, h2⟩ := h
    simp only [idsOf, List.append_eq_nil_iff] at hr
    exact ⟨a, c, rfl, pureL_any hmu fs _ hr.1 h1, pureL_any hmu cs _ hr.2 h2⟩
  | .hs .., _, hr, _ | .hp .., _, hr, _ | .mp .., _, hr, _ => by simp [idsOf] at hr
theorem pureL_any (hmu : ∀ b, mu' b → mu b) : (cs : List AV) → (vs : List Value) → idsOfL cs = [] → RvL w mu π cs vs → RvL w mu' π' cs vs
  | [], _, _, h => h
  | c :: cs, vs, hr, h => by
    obtain ⟨v, vs', rfl, h1, h2⟩ := h
    simp only [idsOfL, List.append_eq_nil_iff] at hr
    exact ⟨v, vs', rfl, pure_any hmu c v hr.1 h1, pureL_any hmu cs vs' hr.2 h2⟩
end
theorem pureC_any (hmu : ∀ b, mu' b → mu b) : ∀ (cs : List AV) (b o : Nat), idsOfL cs = [] → RvC w mu π cs b o → RvC w mu' π' cs b o
  | [], _, _, _, h => trivial
  | c :: cs, b, o, hr, h => by
    obtain ⟨⟨v, h1, h2, h3⟩, h4⟩ := h
    simp only [idsOfL, List.append_eq_nil_iff] at hr
    exact ⟨⟨v, h1, h2, pure_any hmu c v hr.1 h3⟩, pureC_any hmu cs b (o + 1) hr.2 h4⟩
end

/-- A value as it is handed on that writes nothing of ours. -/
def Sn (H : List Blk) (ok : Nat → Bool) (A A' : AV) : Prop := ∀ (w : World) (mu mu' : Nat → Prop) (π : List (Option PB)) (v : Value), Look w mu mu' π H ok → (∀ b, mu' b → mu b) → Rv w mu π A v → Rv w mu' [] A' v
def SnL (H : List Blk) (ok : Nat → Bool) (A A' : List AV) : Prop := ∀ (w : World) (mu mu' : Nat → Prop) (π : List (Option PB)) (v : List Value), Look w mu mu' π H ok → (∀ b, mu' b → mu b) → RvL w mu π A v → RvL w mu' [] A' v
def SnC (H : List Blk) (ok : Nat → Bool) (A A' : List AV) : Prop := ∀ (w : World) (mu mu' : Nat → Prop) (π : List (Option PB)) (b o : Nat), Look w mu mu' π H ok → (∀ b, mu' b → mu b) → RvC w mu π A b o → RvC w mu' [] A' b o
section
variable {H : List Blk} {ok : Nat → Bool}
theorem SnL.nil : SnL H ok [] [] := fun _ _ _ _ _ _ _ h => h
theorem SnL.cons {A A' : AV} {As As' : List AV} (h : Sn H ok A A') (k : SnL H ok As As') : SnL H ok (A :: As) (A' :: As') := fun w mu mu' π v hL hm hv => by
  obtain ⟨u, us, rfl, h1, h2⟩ := hv
  exact ⟨u, us, rfl, h w mu mu' π u hL hm h1, k w mu mu' π us hL hm h2⟩
theorem SnL.pure {As : List AV} (h : idsOfL As = []) : SnL H ok As As := fun w mu mu' π v hL hm hv => pureL_any hm As v h hv
theorem SnC.nil : SnC H ok [] [] := fun _ _ _ _ _ _ _ _ _ => trivial
theorem SnC.cons {A A' : AV} {As As' : List AV} (h : Sn H ok A A') (k : SnC H ok As As') : SnC H ok (A :: As) (A' :: As') := fun w mu mu' π b o hL hm hv => by
  obtain ⟨⟨u, h1, h2, h3⟩, h4⟩ := hv
  exact ⟨⟨u, h1, h2, h w mu mu' π u hL hm h3⟩, k w mu mu' π b (o + 1) hL hm h4⟩
theorem SnC.pure {As : List AV} (h : idsOfL As = []) : SnC H ok As As := fun w mu mu' π b o hL hm hv => pureC_any hm As b o h hv
theorem Sn.pure {A : AV} (h : idsOf A = []) : Sn H ok A A := fun w mu mu' π v hL hm hv => pure_any hm A v h hv
theorem Sn.unk {A : AV} : Sn H ok A .unk := fun _ _ _ _ _ _ _ _ => trivial
theorem Sn.nilsl : Sn H ok (.at (.slice none 0 0)) (.sl true [] 0) := fun w mu mu' π v hL hm hv => .inl ⟨rfl, rfl, rfl, hv⟩
theorem Sn.slw {nl : Bool} {cs : List AV} {len : Nat} : Sn H ok (.sl nl cs len) (.sl true cs len) := fun w mu mu' π v hL hm hv => by
  have := pure_any (w := w) (π := π) (π' := []) hm (.sl nl cs len) v rfl hv
  rcases this with ⟨_, h⟩ | h
  · exact .inl ⟨rfl, h⟩
  · exact .inr h
theorem Sn.agg {cs cs' : List AV} (h : SnL H ok cs cs') : Sn H ok (.agg cs) (.agg cs') := fun w mu mu' π v hL hm hv => by
  obtain ⟨vs, rfl, h1⟩ := hv
  exact ⟨vs, rfl, h w mu mu' π _ hL hm h1⟩
theorem Sn.tup {cs cs' : List AV} (h : SnL H ok cs cs') : Sn H ok (.tup cs) (.tup cs') := fun w mu mu' π v hL hm hv => by
  obtain ⟨vs, rfl, h1⟩ := hv
  exact ⟨vs, rfl, h w mu mu' π _ hL hm h1⟩
theorem Sn.fn {f : FuncId} {fs fs' cs cs' : List AV} (h : SnL H ok fs fs') (k : SnL H ok cs cs') : Sn H ok (.fn f fs cs) (.fn f fs' cs') := fun w mu mu' π v hL hm hv => by
  obtain ⟨a, c, rfl, h1, h2⟩ := hv
  exact ⟨a, c, rfl, h w mu mu' π _ hL hm h1, k w mu mu' π _ hL hm h2⟩
theorem Sn.hp {b off : Nat} {cs cs' : List AV} (hok : ok b = true) (hb : H[b]? = some (.own cs) ∨ H[b]? = some (.fix cs)) (h : SnC H ok cs cs') : Sn H ok (.hp b off) (.pp cs' off) := fun w mu mu' π v hL hm hv => by
  obtain ⟨p, hp, rfl⟩ := hv
  obtain ⟨g1, g2⟩ := hL b p cs hok hb hp
  exact ⟨p.blk, p.off, rfl, fun _ => g2, h w mu mu' π _ _ hL hm g1⟩
theorem Sn.hs {b len es : Nat} {cs cs' : List AV} (hok : ok b = true) (hb : H[b]? = some (.own cs) ∨ H[b]? = some (.fix cs)) (h : SnC H ok cs cs') (h0 : len = 0 → cs' = []) : Sn H ok (.hs b 0 len es) (.sl true cs' len) := fun w mu mu' π v hL hm hv => by
  rcases hv with ⟨rfl, rfl⟩ | ⟨p, a, cap, h1, rfl, h2, hsp, h3⟩
  · exact .inl ⟨rfl, rfl, h0 rfl, rfl⟩
  · obtain ⟨g1, g2⟩ := hL b p cs hok hb h1
    obtain ⟨ab, ao, asp⟩ := a
    simp only at hsp; subst hsp
    by_cases hcap : 0 < cap
    · obtain ⟨e1, _⟩ := h3 hcap
      cases e1
      exact .inr (.inl ⟨_, _, cap, rfl, h2, fun _ => g2, h w mu mu' π _ _ hL hm g1⟩)
    · have : cs' = [] := h0 (by omega)
      subst this
      exact .inr (.inl ⟨ab, ao, cap, rfl, h2, fun h => (h rfl).elim, trivial⟩)
theorem Sn.of_snapA {n : Nat} {A A' : AV} (h : snapA H ok n A = some A') : Sn H ok A A' := fun w mu mu' π v hL hm hv => snapA_sound hL hm n A A' v hv h
end

/-! Contracts. -/
/-- Called so, the function answers so, and writes nothing of what was there. -/
def FnOk (P : Program) (f : FuncId) (args : List AV) (r : AV) : Prop := ∀ (out : Nat → Prop) (w : World) (vs : List Value), (∀ b, out b → b < w.heap.size) → RvL w out [] args vs →
    Calls P f vs.toArray w fun e w' => ∃ u, e = .returned u ∧ Ext (Lo w.heap.size) w w' out out [] [] ∧ Rv w' out [] r u

section
variable {P : Program}
theorem FnOk.of_ext {f : FuncId} {F : List AV → Option AV} (h : ExtOk P f F) {args : List AV} {r : AV} (hr : F args = some r) : FnOk P f args r := fun out w vs ho ha => h args r hr out w vs ho ha
theorem FnOk.of_row {e : Row} (h : RowOk P e) : FnOk P e.f e.args e.r := fun out w vs ho ha => h out w vs ho ha

/-- A function's end. -/
def FinQ (P : Program) (rs : List ResultVar) (r : AV) : X → St → Prop
  | .exit _, _ => False
  | _, st => ∃ vs, resultsA P st rs = some vs ∧ Sn st.heap (fun _ => true) (packA vs) r
theorem FinQ.ret {rs : List ResultVar} {r : AV} {st : St} {vs : List AV} (h : resultsA P st rs = some vs) (k : Sn st.heap (fun _ => true) (packA vs) r) : FinQ P rs r .ret st := ⟨vs, h, k⟩
theorem FinQ.normal {rs : List ResultVar} {r : AV} {st : St} {vs : List AV} (h : resultsA P st rs = some vs) (k : Sn st.heap (fun _ => true) (packA vs) r) : FinQ P rs r .normal st := ⟨vs, h, k⟩

theorem look_all {out : Nat → Prop} {w : World} {B : Nat → Prop} {π : List (Option PB)} {H : List Blk} (hI : Inv out B w π H) : Look w (muOf out π H) out π H (fun _ => true) := by
  intro b p cs _ hbl hp
  refine ⟨blk_cells hI hbl hp, fun ho => ?_⟩
  have hlive : ∃ y, H[b]? = some y ∧ y.isLive = true := by rcases hbl with h | h <;> exact ⟨_, h, rfl⟩
  obtain ⟨y, hy, hyl⟩ := hlive
  exact (hI.base b y p hy hp hyl).1 (hI.out_lt _ ho)

theorem FnOk.body (G : Fine P) {f : FuncId} {fn : Func} (hf : P.funcs[f]? = some fn) {c : Code} (hb : fn.body = some c) {args : List AV} {r : AV} {s : List AV} {rs : List ResultVar} (hs : args ++ unks (fn.ntmps - args.length) = s) (hrs : fn.results.toList = rs)
    (h : CQ 0 P [.c c] (FinQ P rs r) .normal ⟨s, []⟩) : FnOk P f args r := by
  intro out w vs hout ha
  subst hs
  subst hrs
  refine calls_of_wp hf hb ?_
  have hlen := RvL.length _ _ ha
  have hI0 : Inv out (Lo w.heap.size) w [] [] := ⟨rfl, fun _ h => h, hout, by simp, by simp, by simp⟩
  have hR : Rep out (Lo w.heap.size) w [] ⟨args ++ unks (fn.ntmps - args.length), []⟩ { tmps := vs.toArray ++ Array.replicate (fn.ntmps - vs.toArray.size) undef, defers := [] } := by
    refine ⟨rfl, ?_, hI0⟩
    simp only [Array.toList_append, Array.toList_replicate, List.size_toArray, hlen]
    rw [muOf_nil]
    refine RvL.append _ _ _ _ ha ?_
    refine RvL.of_forall _ _ (by simp [unks]) fun i x y h1 h2 => ?_
    have := List.mem_of_getElem? h1
    simp [unks] at this
    rw [this.2]; trivial
  refine h out (Lo w.heap.size) w [] _ _ hR fun x st' a' w' π' hq hR' hE => ?_
  rw [muOf_nil] at hE
  have fin : ∀ vs', resultsA P st' fn.results.toList = some vs' → Sn st'.heap (fun _ => true) (packA vs') r → ∃ u, (results fn a'.tmps).run P w' = .ok u w' ∧ ∃ u', (Ending.returned u) = .returned u' ∧ Ext (Lo w.heap.size) w w' out out [] [] ∧ Rv w' out [] r u' := by
    intro vs' hv hsn
    obtain ⟨u, r1, r2⟩ := results_sound hR' hv
    exact ⟨u, r1, u, rfl, ⟨hE.low, hE.size, fun b hb hnb => ⟨hE.low b hb, hnb⟩, by simp, hE.os, hE.tape, hE.output⟩, hsn w' _ out π' u (look_all hR'.inv) (fun b hb => .inl hb) r2⟩
  cases x with
  | normal => obtain ⟨vs', h1, h2⟩ := hq; exact ⟨hR'.defers, fin vs' h1 h2⟩
  | ret => obtain ⟨vs', h1, h2⟩ := hq; exact ⟨hR'.defers, fin vs' h1 h2⟩
  | exit id => exact hq.elim

theorem call_core {f : FuncId} {args args' : List AV} {H : List Blk} {l : List Nat} {r : AV} {out : Nat → Prop} {B : Nat → Prop} {w : World} {π : List (Option PB)} {vs : List Value} {H' : List Blk} (hag : ∀ b ∈ l, b < H.length → H'[b]? = H[b]?) (hI : Inv out B w π H') (ha : RvL w (muOf out π H') π args vs)
    (hsn : SnL H (fun b => l.contains b) args args') (hrun : FnOk P f args' r) :
    Inv out B w π (updAll H' (freezeW H l)) ∧ Ext B w w (muOf out π H') (muOf out π (updAll H' (freezeW H l))) π π ∧
    Calls P f vs.toArray w fun e w' => ∃ u, e = .returned u ∧ Ext (Lo w.heap.size) w w' (muOf out π (updAll H' (freezeW H l))) (muOf out π (updAll H' (freezeW H l))) [] [] ∧ Rv w' (muOf out π (updAll H' (freezeW H l))) [] r u := by
  obtain ⟨hfI, hfE, hfl, hf1, hf2⟩ := freezeW_sound l H' H hI (fun b hb hlt => .inl (hag b hb hlt))
  have hmu := Ext.mu_mono hfI hfE
  have hL : Look w (muOf out π H') (muOf out π (updAll H' (freezeW H l))) π H (fun b => l.contains b) := by
    intro b p cs hok hbl hp
    have hbm : b ∈ l := by simpa using hok
    have hblt : b < H.length := by rcases hbl with h | h <;> exact getElem?_lt h
    have hbl' : H'[b]? = some (.own cs) ∨ H'[b]? = some (.fix cs) := by rw [hag b hbm hblt]; exact hbl
    refine ⟨blk_cells hI hbl' hp, ?_⟩
    have hlive : ∃ y, H'[b]? = some y ∧ y.isLive = true := by rcases hbl' with h | h <;> exact ⟨_, h, rfl⟩
    obtain ⟨y, hy, hyl⟩ := hlive
    have hge := hI.base b y p hy hp hyl
    have hfx : (updAll H' (freezeW H l))[b]? = some (.fix cs) := by
      rcases hbl with h | h
      · exact hf1 b hbm cs h
      · rw [hf2 b (fun cs' _ h' => by rw [h] at h'; cases h'), hag b hbm hblt]; exact h
    rintro (h | ⟨i, x, q, h1, h2, h3, h4⟩)
    · exact hge.1 (hI.out_lt _ h)
    · by_cases hib : i = b
      · subst hib; rw [hfx] at h1; cases h1; simp [Blk.isMut] at h2
      · exact hfI.sep i b x (.fix cs) q p hib h1 hfx h3 hp h2 rfl h4
  have ha' : RvL w (muOf out π (updAll H' (freezeW H l))) [] args' vs := hsn w _ _ π vs hL hmu ha
  exact ⟨hfI, hfE, hrun _ w vs (muOf_lt hfI) ha'⟩

/-- A caller's answer: what the arguments lead to is written no more. -/
theorem callOk_ref {f : FuncId} {args args' : List AV} {H : List Blk} {l : List Nat} {r : AV} (hsn : SnL H (fun b => l.contains b) args args') (hrun : FnOk P f args' r) : CallOk P f args H (.loc r (freezeW H l) l 0) := by
  intro H' hlen hag out B w π vs hI hπ ha
  obtain ⟨hfI, hfE, hc⟩ := call_core hag hI ha hsn hrun
  refine hc.mono ?_
  rintro e w' ⟨u, rfl, k1, k2⟩
  obtain ⟨g1, g2⟩ := hfI.past (w' := w') (fun b hb => k1.low b hb) k1.size k1.os k1.tape k1.output
  exact ⟨u, π, rfl, hfE.trans g2, g1, k2.lift, fun _ _ => rfl⟩
/-- The same for an answer that leads nowhere. -/
theorem callOk_val {f : FuncId} {args args' : List AV} {H : List Blk} {l : List Nat} {r : AV} (hr : hasRef r = false) (hsn : SnL H (fun b => l.contains b) args args') (hrun : FnOk P f args' r) : CallOk P f args H (.loc r [] l 0) := by
  intro H' hlen hag out B w π vs hI hπ ha
  obtain ⟨hfI, hfE, hc⟩ := call_core hag hI ha hsn hrun
  refine hc.mono ?_
  rintro e w' ⟨u, rfl, k1, k2⟩
  obtain ⟨g1, g2⟩ := hI.past (w' := w') (fun b hb => k1.low b hb) k1.size k1.os k1.tape k1.output
  exact ⟨u, π, rfl, g2, g1, noRef_any _ _ hr k2, fun _ _ => rfl⟩

/-! Some calls, by their answers. -/
structure CE where
  f : FuncId
  args : List AV
  H : List Blk
  r : CRes
open Classical in
noncomputable def callOf : List CE → CallF
  | [] => fun _ _ _ => none
  | e :: L => fun f args H => if f = e.f ∧ args = e.args ∧ H = e.H then some e.r else callOf L f args H
theorem callOf_ok : ∀ (L : List CE), (∀ e ∈ L, CallOk P e.f e.args e.H e.r) → CallsOk P (callOf L)
  | [], _ => fun f args H r h => by cases h
  | e :: L, hL => fun f args H r h => by
    simp only [callOf] at h
    split at h
    · rename_i hk
      cases h
      obtain ⟨rfl, rfl, rfl⟩ := hk
      exact hL e (by simp)
    · exact callOf_ok L (fun x hx => hL x (by simp [hx])) f args H r h
theorem callOf_nil : CallsOk P (callOf []) := callOf_ok [] (by simp)
theorem callOf_one {e : CE} (h : CallOk P e.f e.args e.H e.r) : CallsOk P (callOf [e]) := callOf_ok [e] (by simpa using h)
theorem callOf_hd {e : CE} {L : List CE} : callOf (e :: L) e.f e.args e.H = some e.r := by simp [callOf]
theorem callOf_tl {e e' : CE} {L : List CE} (hne : e'.f = e.f → e'.args = e.args → e'.r = e.r) (h : callOf L e'.f e'.args e'.H = some e'.r) : callOf (e :: L) e'.f e'.args e'.H = some e'.r := by
  simp only [callOf]
  split
  · rename_i hk; rw [hne hk.1 hk.2.1]
  · exact h
end

/-! To know by less. -/
/-- Slots that are not named are forgotten. -/
def maskS (keep : List Nat) : List AV → Nat → List AV
  | [], _ => []
  | x :: s, i => (match memN keep i with | true => x | false => .unk) :: maskS keep s (i + 1)
where
  memN : List Nat → Nat → Bool
  | [], _ => false
  | y :: l, i => match Nat.beq y i with | true => true | false => memN l i
theorem mask_rv {w : World} {mu : Nat → Prop} {π : List (Option PB)} (keep : List Nat) : ∀ (s : List AV) (vs : List Value) (i : Nat), RvL w mu π s vs → RvL w mu π (maskS keep s i) vs
  | [], _, _, h => h
  | c :: s, _, i, h => by
    obtain ⟨v, vs', rfl, h1, h2⟩ := h
    refine ⟨v, vs', rfl, ?_, mask_rv keep s vs' (i + 1) h2⟩
    cases maskS.memN keep i
    · trivial
    · exact h1
theorem Wk.mask (keep : List Nat) {s : List AV} {h : List Blk} : Wk K ⟨s, h⟩ ⟨maskS keep s 0, h⟩ := fun out B w π a hR => ⟨π, ⟨hR.defers, mask_rv keep _ _ _ hR.slots, hR.inv⟩, fun _ h => h, PinK.refl π⟩

/-- A slot known by less. -/
theorem Wk.slot (i : Nat) {A' : AV} {s : List AV} {h : List Blk} (hA : ∀ (out : Nat → Prop) (B : Nat → Prop) (w : World) (π : List (Option PB)) (v : Value), Inv out B w π h → Rv w (muOf out π h) π (s.getD i .unk) v → Rv w (muOf out π h) π A' v) : Wk K ⟨s, h⟩ ⟨s.set i A', h⟩ := fun out B w π a hR => by
  refine ⟨π, ⟨hR.defers, ?_, hR.inv⟩, fun _ h => h, PinK.refl π⟩
  have hs := hR.slots
  simp only at hs ⊢
  by_cases hi : i < s.length
  · obtain ⟨v, h1, h2⟩ := RvL.get _ _ i s[i] hs (List.getElem?_eq_getElem hi)
    have he : s.getD i .unk = s[i] := by simp [List.getD, hi]
    have := hA out B w π v hR.inv (by rw [he]; exact h2)
    have hset := RvL.set s a.tmps.toList i A' v hs this
    have : a.tmps.toList.set i v = a.tmps.toList := by
      apply List.ext_getElem?
      intro j
      rw [List.getElem?_set]
      split
      · rename_i hij; subst hij
        rw [if_pos (getElem?_lt h1)]; exact h1.symm
      · rfl
    rw [this] at hset; exact hset
  · rw [List.set_eq_of_length_le (by omega)]; exact hs

/-- A nil slice as an own one without a place. -/
theorem Wk.nil (i es : Nat) {s : List AV} {h : List Blk} (hs : getS s i = .at (.slice none 0 0)) : Wk K ⟨s, h⟩ ⟨s.set i (.hs h.length 0 0 es), h ++ [.own []]⟩ := fun out B w π a hR => by
  have hl := hR.inv.len
  simp only at hl
  have h1 : Wk K ⟨s, h⟩ ⟨s.set i (.hs h.length 0 0 es), h⟩ := Wk.slot i fun out B w π v hI hv => by
    rw [← getS_eq, hs] at hv
    exact .inl ⟨rfl, hv⟩
  obtain ⟨π1, g1, g2, g3⟩ := h1 out B w π a hR
  have gH : ∀ {j : Nat} {x : Blk} {p : PB}, (h ++ [.own []])[j]? = some x → (π1 ++ [none])[j]? = some (some p) → h[j]? = some x ∧ π1[j]? = some (some p) := by
    intro j x p e1 e2
    have hl1 := g1.inv.len
    simp only at hl1
    by_cases hj : j < h.length
    · rw [List.getElem?_append_left hj] at e1
      rw [List.getElem?_append_left (by omega)] at e2
      exact ⟨e1, e2⟩
    · rw [List.getElem?_append_right (by omega)] at e2
      have := List.mem_of_getElem? e2
      simp at this
  have hmu : ∀ b, muOf out (π1 ++ [none]) (h ++ [.own []]) b → muOf out π1 h b := by
    rintro b (ho | ⟨j, x, p, e1, e2, e3, e4⟩)
    · exact .inl ho
    · obtain ⟨f1, f2⟩ := gH e1 e3
      exact .inr ⟨j, x, p, f1, e2, f2, e4⟩
  have hE : Ext B w w (muOf out π1 h) (muOf out (π1 ++ [none]) (h ++ [.own []])) π1 (π1 ++ [none]) := ⟨fun _ _ => rfl, Nat.le_refl _, fun b _ hb => ⟨rfl, fun hb' => hb (hmu b hb')⟩, fun j p hp => by
    rw [List.getElem?_append_left (getElem?_lt hp)]; exact hp, rfl, rfl, rfl⟩
  refine ⟨π1 ++ [none], ⟨g1.defers, RvL.ext hE _ _ g1.slots, ?_⟩, fun b hb => g2 b (hmu b hb), g3.trans hE.pin⟩
  have hI := g1.inv
  refine ⟨by have := hI.len; simp at this ⊢; omega, hI.bound, hI.out_lt, ?_, ?_, ?_⟩
  · intro j x p e1 e2 e3
    obtain ⟨f1, f2⟩ := gH e1 e2
    exact hI.base j x p f1 f2 e3
  · intro j x p e1 e2
    obtain ⟨f1, f2⟩ := gH e1 e2
    exact BlkOk.ext hE (fun _ => rfl) (hI.ok j x p f1 f2)
  · intro i' j x y p q hij e1 e2 e3 e4 e5 e6
    obtain ⟨f1, f3⟩ := gH e1 e3
    obtain ⟨f2, f4⟩ := gH e2 e4
    exact hI.sep i' j x y p q hij f1 f2 f3 f4 e5 e6

/-- A block that is written no more. -/
theorem Wk.fix (b : Nat) {cs : List AV} {s : List AV} {h : List Blk} (hb : h[b]? = some (.own cs)) : Wk K ⟨s, h⟩ ⟨s, h.set b (.fix cs)⟩ := fun out B w π a hR => by
  obtain ⟨g1, g2⟩ := hR.inv.freeze1 (b := b) (.inl hb)
  have hu : upd h b (.fix cs) = h.set b (.fix cs) := by simp [upd, getElem?_lt hb]
  rw [hu] at g1 g2
  exact ⟨π, ⟨hR.defers, RvL.ext g2 _ _ hR.slots, g1⟩, Ext.mu_mono g1 g2, PinK.refl π⟩
theorem look_fix {out : Nat → Prop} {w : World} {B : Nat → Prop} {π : List (Option PB)} {H : List Blk} (hI : Inv out B w π H) : ∀ (b : Nat) (p : PB) (cs : List AV), H[b]? = some (.fix cs) → π[b]? = some (some p) → RvC w (muOf out π H) π cs p.blk p.off ∧ ¬ muOf out π H p.blk := by
  intro b p cs hb hp
  refine ⟨blk_cells hI (.inr hb) hp, ?_⟩
  rintro (h | ⟨i, x, q, h1, h2, h3, h4⟩)
  · exact (hI.base b _ p hb hp rfl).1 (hI.out_lt _ h)
  · by_cases hib : i = b
    · subst hib; rw [hb] at h1; cases h1; simp [Blk.isMut] at h2
    · exact hI.sep i b x (.fix cs) q p hib h1 hb h3 hp h2 rfl h4
/-- A slice of such a block as one that came in. -/
theorem Wk.purify (i : Nat) {b len es : Nat} {cs : List AV} {s : List AV} {h : List Blk} (hs : getS s i = .hs b 0 len es) (hb : h[b]? = some (.fix cs)) (hp : idsOfL cs = []) (h0 : len = 0 → cs = []) : Wk K ⟨s, h⟩ ⟨s.set i (.sl true cs len), h⟩ := Wk.slot i fun out B w π v hI hv => by
  rw [← getS_eq, hs] at hv
  rcases hv with ⟨rfl, rfl⟩ | ⟨p, a, cap, h1, rfl, h2, hsp, h3⟩
  · exact .inl ⟨rfl, rfl, h0 rfl, rfl⟩
  · obtain ⟨g1, g2⟩ := look_fix hI b p cs hb h1
    obtain ⟨ab, ao, asp⟩ := a
    simp only at hsp; subst hsp
    by_cases hcap : 0 < cap
    · obtain ⟨e1, _⟩ := h3 hcap
      cases e1
      exact .inr (.inl ⟨_, _, cap, rfl, h2, fun _ => g2, pureC_any (fun _ h => h) cs _ _ hp g1⟩)
    · have : cs = [] := h0 (by omega)
      subst this
      exact .inr (.inl ⟨ab, ao, cap, rfl, h2, fun h => (h rfl).elim, trivial⟩)

/-- Own blocks under new numbers; what is not kept is forgotten. -/
def posOf : List (Nat × Bool) → Nat → Nat → Option Nat
  | [], _, _ => none
  | (y, _) :: l, b, k => match Nat.beq y b with | true => some k | false => posOf l b (k + 1)
mutual
def rfA (ρ : Nat → Option Nat) : AV → AV
  | .hs b off len es => match ρ b with | some c => .hs c off len es | none => .unk
  | .hp b off => match ρ b with | some c => .hp c off | none => .unk
  | .mp b => match ρ b with | some c => .mp c | none => .unk
  | .agg cs => .agg (rfL ρ cs)
  | .tup cs => .tup (rfL ρ cs)
  | .fn f fs cs => .fn f (rfL ρ fs) (rfL ρ cs)
  | x => x
def rfL (ρ : Nat → Option Nat) : List AV → List AV
  | [] => []
  | c :: cs => rfA ρ c :: rfL ρ cs
end
def rfM (ρ : Nat → Option Nat) : List (Value × AV) → List (Value × AV)
  | [] => []
  | (k, a) :: l => (k, rfA ρ a) :: rfM ρ l
def idsOfM : List (Value × AV) → List Nat
  | [] => []
  | (_, a) :: l => idsOf a ++ idsOfM l
def rfB (ρ : Nat → Option Nat) : Bool → Blk → Blk
  | true, .own cs => .own (rfL ρ cs)
  | true, .fix cs => .fix (rfL ρ cs)
  | true, .map es => .map (rfM ρ es)
  | true, .dead => .dead
  | false, x => x
def rnH (H : List Blk) (keep : List (Nat × Bool)) : List (Nat × Bool) → List Blk
  | [] => []
  | (b, t) :: l => (match H[b]? with | some x => rfB (fun b => posOf keep b 0) t x | none => .dead) :: rnH H keep l
def rnL (keep : List (Nat × Bool)) (l : List AV) : List AV := rfL (fun b => posOf keep b 0) l
def gcSt (slots : List Nat) (keep : List (Nat × Bool)) (st : St) : St := ⟨rnL keep (maskS slots st.slots 0), rnH st.heap keep keep⟩
def pureBk : Option Blk → Prop
  | some (.own cs) => idsOfL cs = []
  | some (.fix cs) => idsOfL cs = []
  | some (.map es) => idsOfM es = []
  | _ => True
def pureK (H : List Blk) : List (Nat × Bool) → Prop
  | [] => True
  | (b, false) :: l => pureBk H[b]? ∧ pureK H l
  | (_, true) :: l => pureK H l
def nodupK : List (Nat × Bool) → Bool
  | [] => true
  | (b, _) :: l => (match posOf l b 0 with | none => true | some _ => false) && nodupK l

section
variable {ρ : Nat → Option Nat} {w : World} {mu mu' : Nat → Prop} {π π' : List (Option PB)}
mutual
theorem rfA_rv (hmu : ∀ b, mu' b → mu b) (hπ : ∀ b c p, ρ b = some c → π[b]? = some (some p) → π'[c]? = some (some p)) : (A : AV) → (v : Value) → Rv w mu π A v → Rv w mu' π' (rfA ρ A) v
  | .unk, _, _ => by simp only [rfA]; trivial
  | .at x, v, h => by simp only [rfA]; exact h
  | .sl nl cs len, v, h => by simp only [rfA]; exact pure_any hmu (.sl nl cs len) v rfl h
  | .pp cs off, v, h => by simp only [rfA]; exact pure_any hmu (.pp cs off) v rfl h
  | .hs b off len es, v, h => by
    simp only [rfA]
    cases hk : ρ b with
    | none => trivial
    | some c =>
      rcases h with h | ⟨p, a, cap, h1, h2⟩
      · exact .inl h
      · exact .inr ⟨p, a, cap, hπ b c p hk h1, h2⟩
  | .hp b off, v, h => by
    simp only [rfA]
    cases hk : ρ b with
    | none => trivial
    | some c => obtain ⟨p, h1, h2⟩ := h; exact ⟨p, hπ b c p hk h1, h2⟩
  | .mp b, v, h => by
    simp only [rfA]
    cases hk : ρ b with
    | none => trivial
    | some c => obtain ⟨p, h1, h2⟩ := h; exact ⟨p, hπ b c p hk h1, h2⟩
  | .agg cs, v, h => by
    simp only [rfA]
    obtain ⟨vs, rfl, h1⟩ := h
    exact ⟨vs, rfl, rfL_rv hmu hπ cs _ h1⟩
  | .tup cs, v, h => by
    simp only [rfA]
    obtain ⟨vs, rfl, h1⟩ := h
    exact ⟨vs, rfl, rfL_rv hmu hπ cs _ h1⟩
  | .fn f fs cs, v, h => by
    simp only [rfA]
    obtain ⟨a, c, rfl, h1, h2⟩ := h
    exact ⟨a, c, rfl, rfL_rv hmu hπ fs _ h1, rfL_rv hmu hπ cs _ h2⟩
theorem rfL_rv (hmu : ∀ b, mu' b → mu b) (hπ : ∀ b c p, ρ b = some c → π[b]? = some (some p) → π'[c]? = some (some p)) : (cs : List AV) → (vs : List Value) → RvL w mu π cs vs → RvL w mu' π' (rfL ρ cs) vs
  | [], _, h => by simp only [rfL]; exact h
  | c :: cs, _, h => by
    simp only [rfL]
    obtain ⟨v, vs', rfl, h1, h2⟩ := h
    exact ⟨v, vs', rfl, rfA_rv hmu hπ c v h1, rfL_rv hmu hπ cs vs' h2⟩
end
theorem rfC_rv (hmu : ∀ b, mu' b → mu b) (hπ : ∀ b c p, ρ b = some c → π[b]? = some (some p) → π'[c]? = some (some p)) : ∀ (cs : List AV) (b o : Nat), RvC w mu π cs b o → RvC w mu' π' (rfL ρ cs) b o
  | [], _, _, _ => by simp only [rfL]; trivial
  | c :: cs, b, o, h => by
    simp only [rfL]
    obtain ⟨⟨v, h1, h2, h3⟩, h4⟩ := h
    exact ⟨⟨v, h1, h2, rfA_rv hmu hπ c v h3⟩, rfC_rv hmu hπ cs b (o + 1) h4⟩
theorem rfM_rv (hmu : ∀ b, mu' b → mu b) (hπ : ∀ b c p, ρ b = some c → π[b]? = some (some p) → π'[c]? = some (some p)) : ∀ (es : List (Value × AV)) (l : List MapEntry), RvM w mu π es l → RvM w mu' π' (rfM ρ es) l
  | [], _, h => by simp only [rfM]; exact h
  | (k, a) :: es, _, h => by
    simp only [rfM]
    obtain ⟨e, l', rfl, h2, h3, h4⟩ := h
    exact ⟨e, l', rfl, h2, rfA_rv hmu hπ a _ h3, rfM_rv hmu hπ es l' h4⟩
theorem pureM_any (hmu : ∀ b, mu' b → mu b) : ∀ (es : List (Value × AV)) (l : List MapEntry), idsOfM es = [] → RvM w mu π es l → RvM w mu' π' es l
  | [], _, _, h => h
  | (k, a) :: es, _, hr, h => by
    simp only [idsOfM, List.append_eq_nil_iff] at hr
    obtain ⟨e, l', rfl, h2, h3, h4⟩ := h
    exact ⟨e, l', rfl, h2, pure_any hmu a _ hr.1 h3, pureM_any hmu es l' hr.2 h4⟩
/-- A block under new numbers. -/
theorem rfB_ok (hmu : ∀ b, mu' b → mu b) (hπ : ∀ b c p, ρ b = some c → π[b]? = some (some p) → π'[c]? = some (some p)) {t : Bool} {y : Blk} {p : PB} (hp : t = false → pureBk (some y)) (hok : BlkOk w mu π p y) : BlkOk w mu' π' p (rfB ρ t y) := by
  cases t with
  | true =>
    cases y with
    | own cs => exact ⟨hok.1, rfC_rv hmu hπ cs _ _ hok.2⟩
    | fix cs => exact rfC_rv hmu hπ cs _ _ hok
    | dead => trivial
    | map es => obtain ⟨a, c, h1, h2⟩ := hok; exact ⟨a, c, h1, rfM_rv hmu hπ es _ h2⟩
  | false =>
    have hp := hp rfl
    cases y with
    | own cs => exact ⟨hok.1, pureC_any hmu cs _ _ hp hok.2⟩
    | fix cs => exact pureC_any hmu cs _ _ hp hok
    | dead => trivial
    | map es => obtain ⟨a, c, h1, h2⟩ := hok; exact ⟨a, c, h1, pureM_any hmu es _ hp h2⟩
end

theorem posOf_get : ∀ (l : List (Nat × Bool)) (b k c : Nat), posOf l b k = some c → ∃ (j : Nat) (t : Bool), c = k + j ∧ l[j]? = some (b, t)
  | [], b, k, c, h => by cases h
  | (y, t) :: l, b, k, c, h => by
    simp only [posOf] at h
    split at h
    · rename_i hb
      cases h
      exact ⟨0, t, rfl, by rw [Nat.eq_of_beq_eq_true hb]; rfl⟩
    · obtain ⟨j, t', rfl, h2⟩ := posOf_get l b (k + 1) c h
      exact ⟨j + 1, t', by omega, by simpa using h2⟩
theorem posOf_none : ∀ (l : List (Nat × Bool)) (b k : Nat), posOf l b k = none → ∀ (j : Nat) (t : Bool), l[j]? ≠ some (b, t)
  | [], b, k, _, j, t => by simp
  | (y, t0) :: l, b, k, h, j, t => by
    simp only [posOf] at h
    split at h
    · cases h
    · rename_i hb
      cases j with
      | zero =>
        intro e
        simp only [List.getElem?_cons_zero, Option.some.injEq, Prod.mk.injEq] at e
        obtain ⟨rfl, _⟩ := e
        simp at hb
      | succ j => simpa using posOf_none l b (k + 1) h j t
theorem posOf_shift : ∀ (l : List (Nat × Bool)) (b k m : Nat), posOf l b k = none → posOf l b m = none
  | [], _, _, _, _ => rfl
  | (y, t) :: l, b, k, m, h => by
    simp only [posOf] at h ⊢
    split at h
    · cases h
    · exact posOf_shift l b (k + 1) (m + 1) h
theorem nodupK_ne : ∀ (l : List (Nat × Bool)), nodupK l = true → ∀ (i j b : Nat) (t t' : Bool), l[i]? = some (b, t) → l[j]? = some (b, t') → i = j
  | [], _, i, j, b, t, t', h, _ => by simp at h
  | (y, t0) :: l, hn, i, j, b, t, t', h1, h2 => by
    simp only [nodupK, Bool.and_eq_true] at hn
    obtain ⟨hn1, hn2⟩ := hn
    have hno : posOf l y 0 = none := by
      cases h : posOf l y 0 with
      | none => rfl
      | some c => rw [h] at hn1; cases hn1
    cases i with
    | zero =>
      simp only [List.getElem?_cons_zero, Option.some.injEq, Prod.mk.injEq] at h1
      obtain ⟨rfl, _⟩ := h1
      cases j with
      | zero => rfl
      | succ j => exact (posOf_none l y 0 hno j t' (by simpa using h2)).elim
    | succ i =>
      cases j with
      | zero =>
        simp only [List.getElem?_cons_zero, Option.some.injEq, Prod.mk.injEq] at h2
        obtain ⟨rfl, _⟩ := h2
        exact (posOf_none l y 0 hno i t (by simpa using h1)).elim
      | succ j => rw [nodupK_ne l hn2 i j b t t' (by simpa using h1) (by simpa using h2)]
theorem rnH_get {H : List Blk} {keep : List (Nat × Bool)} : ∀ (l : List (Nat × Bool)) (j : Nat) (x : Blk), (rnH H keep l)[j]? = some x → x.isLive = true → ∃ b t y, l[j]? = some (b, t) ∧ H[b]? = some y ∧ rfB (fun b => posOf keep b 0) t y = x
  | [], j, x, h, _ => by simp [rnH] at h
  | (b, t) :: l, j, x, h, hx => by
    simp only [rnH] at h
    cases j with
    | zero =>
      simp only [List.getElem?_cons_zero, Option.some.injEq] at h
      cases hb : H[b]? with
      | none => rw [hb] at h; subst h; simp [Blk.isLive] at hx
      | some y => rw [hb] at h; exact ⟨b, t, y, rfl, hb, h⟩
    | succ j =>
      obtain ⟨b', t', y, h1, h2, h3⟩ := rnH_get l j x (by simpa using h) hx
      exact ⟨b', t', y, by simpa using h1, h2, h3⟩
theorem rnH_length {H : List Blk} {keep : List (Nat × Bool)} : ∀ (l : List (Nat × Bool)), (rnH H keep l).length = l.length
  | [] => rfl
  | (b, t) :: l => by simp [rnH, rnH_length l]
theorem rfB_mut {ρ : Nat → Option Nat} {t : Bool} {y : Blk} (h : (rfB ρ t y).isMut = true) : y.isMut = true := by cases t <;> cases y <;> simp_all [rfB, Blk.isMut]
theorem rfB_live {ρ : Nat → Option Nat} {t : Bool} {y : Blk} (h : (rfB ρ t y).isLive = true) : y.isLive = true := by cases t <;> cases y <;> simp_all [rfB, Blk.isLive]
theorem rfB_live' {ρ : Nat → Option Nat} {t : Bool} {y : Blk} (h : y.isLive = true) : (rfB ρ t y).isLive = true := by cases t <;> cases y <;> simp_all [rfB, Blk.isLive]
theorem pureK_get {H : List Blk} : ∀ (l : List (Nat × Bool)), pureK H l → ∀ (j b : Nat), l[j]? = some (b, false) → pureBk H[b]?
  | [], _, j, b, h => by simp at h
  | (y, false) :: l, hp, j, b, h => by
    cases j with
    | zero => simp only [List.getElem?_cons_zero, Option.some.injEq, Prod.mk.injEq] at h; obtain ⟨rfl, _⟩ := h; exact hp.1
    | succ j => exact pureK_get l hp.2 j b (by simpa using h)
  | (y, true) :: l, hp, j, b, h => by
    cases j with
    | zero => simp at h
    | succ j => exact pureK_get l hp j b (by simpa using h)

/-- The first K keep their numbers. -/
def pinB : Nat → Nat → List (Nat × Bool) → Bool
  | 0, _, _ => true
  | _ + 1, _, [] => false
  | K + 1, i, (b, _) :: l => match Nat.beq b i with | true => pinB K (i + 1) l | false => false
theorem pinB_get : ∀ (K i : Nat) (l : List (Nat × Bool)), pinB K i l = true → ∀ j, j < K → ∃ t, l[j]? = some (i + j, t)
  | 0, _, _, _, j, hj => absurd hj (Nat.not_lt_zero j)
  | K + 1, i, [], h, _, _ => by cases h
  | K + 1, i, (b, t) :: l, h, j, hj => by
    simp only [pinB] at h
    split at h
    · rename_i hb
      have hb := Nat.eq_of_beq_eq_true hb
      subst hb
      cases j with
      | zero => exact ⟨t, rfl⟩
      | succ j =>
        obtain ⟨t', h'⟩ := pinB_get K (b + 1) l h j (by omega)
        exact ⟨t', by rw [List.getElem?_cons_succ, h', show b + 1 + j = b + (j + 1) by omega]⟩
    · cases h

theorem Wk.gc (slots : List Nat) (keep : List (Nat × Bool)) {st : St} (hn : nodupK keep = true) (hp : pureK st.heap keep) (hpin : pinB K 0 keep = true := by kernel_rfl) : Wk K st (gcSt slots keep st) := fun out B w π a hR => by
  obtain ⟨s, H⟩ := st
  simp only at hp
  have hI := hR.inv
  have hl := hI.len
  simp only at hI hl
  obtain ⟨π', hπ'⟩ : ∃ π' : List (Option PB), π' = keep.map fun q => (π[q.1]?).getD none := ⟨_, rfl⟩
  have hπ : ∀ b c p, posOf keep b 0 = some c → π[b]? = some (some p) → π'[c]? = some (some p) := by
    intro b c p h1 h2
    obtain ⟨j, t, rfl, h3⟩ := posOf_get keep b 0 c h1
    rw [hπ', List.getElem?_map, Nat.zero_add, h3]
    simp [h2]
  have back : ∀ {j : Nat} {x : Blk} {p : PB}, (rnH H keep keep)[j]? = some x → x.isLive = true → π'[j]? = some (some p) → ∃ b t y, keep[j]? = some (b, t) ∧ H[b]? = some y ∧ rfB (fun b => posOf keep b 0) t y = x ∧ π[b]? = some (some p) := by
    intro j x p h1 h2 h3
    obtain ⟨b, t, y, g1, g2, g3⟩ := rnH_get keep j x h1 h2
    refine ⟨b, t, y, g1, g2, g3, ?_⟩
    rw [hπ', List.getElem?_map, g1] at h3
    simp only [Option.map_some, Option.some.injEq] at h3
    cases hb : π[b]? with
    | none => rw [hb] at h3; cases h3
    | some q => rw [hb] at h3; simp only [Option.getD_some] at h3; rw [h3]
  have hmu : ∀ b, muOf out π' (rnH H keep keep) b → muOf out π H b := by
    rintro b (ho | ⟨j, x, p, e1, e2, e3, e4⟩)
    · exact .inl ho
    · obtain ⟨b', t, y, g1, g2, g3, g4⟩ := back e1 (Blk.live_of_mut e2) e3
      exact .inr ⟨b', y, p, g2, rfB_mut (by rw [g3]; exact e2), g4, e4⟩
  refine ⟨π', ⟨hR.defers, ?_, ?_⟩, hmu, fun j hj p hp => ?_⟩
  rotate_left 2
  · obtain ⟨t, ht⟩ := pinB_get K 0 keep hpin j hj
    rw [Nat.zero_add] at ht
    rw [hπ', List.getElem?_map, ht]
    simp [hp]
  · exact rfL_rv hmu hπ _ _ (mask_rv slots _ _ _ hR.slots)
  · refine ⟨by rw [hπ', List.length_map]; exact (rnH_length keep).symm, hI.bound, hI.out_lt, ?_, ?_, ?_⟩
    · intro j x p e1 e2 e3
      obtain ⟨b, t, y, g1, g2, g3, g4⟩ := back e1 e3 e2
      exact hI.base b y p g2 g4 (rfB_live (by rw [g3]; exact e3))
    · intro j x p e1 e2
      cases hx : x.isLive with
      | false => cases x <;> simp_all [Blk.isLive, BlkOk]
      | true =>
        obtain ⟨b, t, y, g1, g2, g3, g4⟩ := back e1 hx e2
        have hok := hI.ok b y p g2 g4
        subst g3
        exact rfB_ok hmu hπ (fun ht => by subst ht; have := pureK_get keep hp j b g1; rw [g2] at this; exact this) hok
    · intro i j x y p q hij e1 e2 e3 e4 e5 e6
      obtain ⟨b, t, z, g1, g2, g3, g4⟩ := back e1 (Blk.live_of_mut e5) e3
      obtain ⟨b', t', z', k1, k2, k3, k4⟩ := back e2 e6 e4
      refine hI.sep b b' z z' p q ?_ g2 k2 g4 k4 (rfB_mut (by rw [g3]; exact e5)) (rfB_live (by rw [k3]; exact e6))
      rintro rfl
      exact hij (nodupK_ne keep hn i j b t t' g1 k1)
theorem Wk.to {a b c : St} (h : Wk K a b) (e : b = c) : Wk K a c := e ▸ h
end Go.Eng
