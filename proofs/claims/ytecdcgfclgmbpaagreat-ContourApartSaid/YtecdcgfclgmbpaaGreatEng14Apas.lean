import Derived.Test.YtecdcgfclgmbpaaGreatEng11Apas
set_option linter.all false
namespace Go.Eng
open Go Go.RowKit
variable [Dr]
def X.rY : X -> Exit
 | .normal => .normal
 | .exit id => .exit id
 | .ret => .ret
section
variable {P : Program} {out : Nat -> Prop} {B : Nat -> Prop}
theorem kG (q : rB P) (hm : P.follows .mixedOrders = true) {call : dz} (m : fP P call) {ops : Array Oper} {id : Nat} {draw : Bool} {st st' : St} (h : ja P call ops.toList draw st = some st')
  {w : World} {π : List (Option PB)} {a : Act} (z : Rep out B w π st a) {Q : Exit -> Act -> World -> Prop}
  (C : ∀ a' w' π', Rep out B w' π' st' a' -> Ext B w w' (aJ out π st.heap) (aJ out π' st'.heap) π π' -> Q .normal a' w') : (Code.region id ops draw).wp P Q a w := by
 cases draw with
 | true => exact AD q hm m h z C
 | false =>
  have D : ga P call ops.toList ops.toList st = some st' := h
  refine wp_region ?_
  have := rA q m (Q := Q) ops.toList 0 st st' w π a (fun j => by simp) D z C
  rw [List.range_eq_range']
  simpa using this
theorem wy (Y : rB P) (hm : P.follows .mixedOrders = true) {call : dz} (M : fP P call) {n : Nat} : ∀ (c : Code) (st st' : St) (x : X) (w : World) (π : List (Option PB)) (a : Act) (Q : Exit -> Act -> World -> Prop),
  evalCode P call n c st = some (x, st') -> Rep out B w π st a -> (∀ a' w' π', Rep out B w' π' st' a' -> Ext B w w' (aJ out π st.heap) (aJ out π' st'.heap) π π' -> Q x.rY a' w') -> c.wp P Q a w := by
 intro c
 induction c with
 | skip => intro st st' x w π a Q h j m; simp only [evalCode] at h; cases h; exact wp_skip (m a w π j (Ext.refl _ _ _))
 | label l => intro st st' x w π a Q h j m; simp only [evalCode] at h; cases h; exact wp_label (m a w π j (Ext.refl _ _ _))
 | region id ops draw =>
  intro st st' x w π a Q h j m
  simp only [evalCode] at h
  split at h
  · rename_i st1 h1
    cases h
    exact kG Y hm M h1 j m
  · cases h
 | seq c d J N =>
  intro st st' x w π a Q h j m
  simp only [evalCode] at h
  split at h
  · rename_i st1 h1
    refine wp_seq (J st st1 .normal w π a _ h1 j fun a' w' π' q z => ?_)
    exact N st1 st' x w' π' a' Q h q fun O T π'' D E => m O T π'' D (z.trans E)
  · rename_i r I
    refine wp_seq (J st st' x w π a _ h j fun a' w' π' q z => ?_)
    have := m a' w' π' q z
    cases x with
    | normal => exact (I st' h).elim
    | exit id => exact this
    | ret => exact this
 | cond o c d J N =>
  intro st st' x w π a Q h j m
  simp only [evalCode] at h
  split at h
  · rename_i hc
    have hv : a.eval o = .bool true := by have := jd j.slots o; rw [hc] at this; exact this
    exact wp_cond_true hv (J st st' x w π a Q h j m)
  · rename_i hc
    have hv : a.eval o = .bool false := by have := jd j.slots o; rw [hc] at this; exact this
    exact wp_cond_false hv (N st st' x w π a Q h j m)
  · cases h
 | block id c U =>
  intro st st' x w π a Q h j m
  simp only [evalCode] at h
  split at h
  · rename_i C st1 h1
    split at h
    · rename_i he
      have he : C = id := by simpa using he
      subst he
      cases h
      refine wp_block (U st st' (.exit C) w π a _ h1 j fun a' w' π' q z => ?_)
      simp only [X.rY, Exit.inBlock, if_true]
      exact m a' w' π' q z
    · rename_i he
      have he : ¬ C = id := by simpa using he
      cases h
      refine wp_block (U st st' (.exit C) w π a _ h1 j fun a' w' π' q z => ?_)
      simp only [X.rY, Exit.inBlock, if_neg he]
      exact m a' w' π' q z
  · rename_i r I
    refine wp_block (U st st' x w π a _ h j fun a' w' π' q z => ?_)
    have := m a' w' π' q z
    cases x with
    | exit C => exact (I C st' h).elim
    | normal => exact this
    | ret => exact this
 | loop c U =>
  intro st st' x w π a Q h j m
  simp only [evalCode] at h
  have gen : ∀ (k : Nat) (st : St) (w : World) (π : List (Option PB)) (a : Act), iter (evalCode P call n c) k st = some (x, st') -> Rep out B w π st a ->
    (∀ a' w' π', Rep out B w' π' st' a' -> Ext B w w' (aJ out π st.heap) (aJ out π' st'.heap) π π' -> Q x.rY a' w') -> Code.rounds P c Q k a w := by
   intro k
   induction k with
   | zero => intro st w π a h; cases h
   | succ k a0 =>
    intro st w π a h j m
    simp only [iter] at h
    split at h
    · rename_i st1 h1
      refine U st st1 .normal w π a _ h1 j fun a' w' π' q z => ?_
      exact a0 st1 w' π' a' h q fun O T π'' D E => m O T π'' D (z.trans E)
    · rename_i r I
      refine U st st' x w π a _ h j fun a' w' π' q z => ?_
      have := m a' w' π' q z
      cases x with
      | normal => exact (I st' h).elim
      | exit id => exact this
      | ret => exact this
  exact wp_loop_rounds n (gen n st w π a h j m)
 | exit id => intro st st' x w π a Q h j m; simp only [evalCode] at h; cases h; exact wp_exit (m a w π j (Ext.refl _ _ _))
 | ret => intro st st' x w π a Q h j m; simp only [evalCode] at h; cases h; exact wp_ret (m a w π j (Ext.refl _ _ _))
 | rangeFunc f ps c d _ _ => intro st st' x w π a Q h j m; simp only [evalCode] at h; cases h
 | scope c _ => intro st st' x w π a Q h j m; simp only [evalCode] at h; cases h
 | goto l => intro st st' x w π a Q h j m; simp only [evalCode] at h; cases h
 | refuse s => intro st st' x w π a Q h j m; simp only [evalCode] at h; cases h
def DA (a : Act) : ResultVar -> Sem Value
 | .tmp t => pure (a.tmps.getD t undef)
 | .cell x t => do loadVar t (<- asAddr (a.tmps.getD x undef))
theorem wP {w : World} {π : List (Option PB)} {st : St} {a : Act} (j : Rep out B w π st a) {r : ResultVar} {v : AV} (h : uZ P st r = some v) :
  ∃ u, (DA a r).run P w = .ok u w /\ Rv w (aJ out π st.heap) π v u := by
 cases r with
 | tmp t =>
  simp only [uZ] at h
  cases h
  exact ⟨_, rfl, jK j.slots t⟩
 | cell x t =>
  simp only [uZ] at h
  have hx := jK j.slots x
  obtain ⟨u, h1, h2⟩ := uH (P := P) j.inv hx h
  have hp : ∃ m, a.tmps.getD x undef = .pointer (some m) := by
   unfold xb at h
   split at h
   · split at h
     · rename_i n cs z q
       obtain ⟨b, o, e1, _⟩ := pK j.inv hx q
       exact ⟨_, e1⟩
     · cases h
   · obtain ⟨m, u, e1, _⟩ := sV j.inv hx h
     exact ⟨_, e1⟩
   · cases h
  obtain ⟨m, e1⟩ := hp
  rw [e1] at h1
  refine ⟨u, ?_, h2⟩
  simp only [DA, e1]
  simpa [Instr.loadAt, Instr.sureAddr, asAddr] using h1
theorem qG {w : World} {π : List (Option PB)} {st : St} {a : Act} (q : Rep out B w π st a) : ∀ (rs : List ResultVar) (vs : List AV), dI P st rs = some vs ->
  ∃ us : List Value, (rs.mapM (DA a)).run P w = .ok us w /\ RvL w (aJ out π st.heap) π vs us
 | [], vs, h => by cases h; exact ⟨[], rfl, rfl⟩
 | r :: rs, vs, h => by
  simp only [dI] at h
  split at h
  · rename_i v j z m
    cases h
    obtain ⟨u, h1, h2⟩ := wP q z
    obtain ⟨us, C, D⟩ := qG q rs j m
    refine ⟨u :: us, ?_, u, us, rfl, h2, D⟩
    simp only [List.mapM_cons, Sem.run_bind, h1, Result.andThen_ok, C, Sem.run_pure]
  · cases h
theorem zx {w : World} {mu : Nat -> Prop} {π : List (Option PB)} {vs : List AV} {us : List Value} (h : RvL w mu π vs us) : Rv w mu π (gX vs) (if h : us.toArray.size = 1 then us.toArray[0] else .tuple us.toArray) := by
 match vs, us, h with
 | [], _, h => cases h; exact ⟨#[], rfl, rfl⟩
 | [v], _, h =>
  obtain ⟨u, m, rfl, h1, rfl⟩ := h
  simpa [gX] using h1
 | v1 :: v2 :: vs, _, h =>
  obtain ⟨u1, m, rfl, h1, u2, j, rfl, h2, q⟩ := h
  have : ¬ (u1 :: u2 :: j).toArray.size = 1 := by simp
  rw [dif_neg this]
  exact ⟨_, rfl, u1, _, rfl, h1, u2, _, rfl, h2, q⟩
theorem lf {w : World} {π : List (Option PB)} {st : St} {a : Act} (j : Rep out B w π st a) {fn : Func} {vs : List AV} (h : dI P st fn.results.toList = some vs) :
  ∃ u, (results fn a.tmps).run P w = .ok u w /\ Rv w (aJ out π st.heap) π (gX vs) u := by
 obtain ⟨us, h1, h2⟩ := qG j _ _ h
 refine ⟨_, ?_, zx h2⟩
 have key : ∀ F : ResultVar -> Sem Value, (∀ r, F r = DA a r) -> (fn.results.toList.mapM F).run P w = .ok us w := by
  intro F m
  rw [show F = DA a from funext m]
  exact h1
 unfold results
 rw [Array.mapM_eq_mapM_toList]
 simp only [Sem.run_bind, Sem.run_map]
 rw [key _ (fun r => by cases r <;> rfl)]
 rfl
theorem ke (C : rB P) (hm : P.follows .mixedOrders = true) {call : dz} (q : fP P call) {n : Nat} {f : FuncId} {fn : Func} (I : P.funcs[f]? = some fn) {args : List AV} {H H' : List Blk} {v : AV} (h : om P call n fn args H = some (v, H'))
  {w : World} {π : List (Option PB)} {vs : List Value} (J : Inv out B w π H) (ha : RvL w (aJ out π H) π args vs) :
  Calls P f vs.toArray w fun e w' => ∃ u π', e = .returned u /\ Ext B w w' (aJ out π H) (aJ out π' H') π π' /\ Inv out B w' π' H' /\ Rv w' (aJ out π' H') π' v u := by
 unfold om at h
 split at h
 · cases h
 · rename_i c hc
   refine calls_of_wp I hc ?_
   have hlen := RvL.length _ _ ha
   have M : Rep out B w π ⟨args ++ o8 (fn.ntmps - args.length), H⟩ { tmps := vs.toArray ++ Array.replicate (fn.ntmps - vs.toArray.size) undef, defers := [] } := by
    refine ⟨rfl, ?_, J⟩
    simp only [Array.toList_append, Array.toList_replicate, List.size_toArray, hlen]
    refine RvL.append _ _ _ _ ha ?_
    refine RvL.mE _ _ (by simp [o8]) fun i x y h1 h2 => ?_
    have := List.mem_of_getElem? h1
    simp [o8] at this
    rw [this.2]; trivial
   have fin : ∀ (x : X) (st : St) (j : List AV), (∀ id, x ≠ .exit id) -> evalCode P call n c ⟨args ++ o8 (fn.ntmps - args.length), H⟩ = some (x, st) -> dI P st fn.results.toList = some j -> v = gX j -> H' = st.heap ->
     c.wp P (bodyPost P fn fun e w' => ∃ u π', e = .returned u /\ Ext B w w' (aJ out π H) (aJ out π' H') π π' /\ Inv out B w' π' H' /\ Rv w' (aJ out π' H') π' v u) { tmps := vs.toArray ++ Array.replicate (fn.ntmps - vs.toArray.size) undef, defers := [] } w := by
    intro x st j hx he D N eH
    subst N; subst eH
    refine wy C hm q c _ st x w π _ _ he M fun a' w' π' m z => ?_
    obtain ⟨u, r1, r2⟩ := lf m D
    cases x with
    | normal => exact ⟨m.defers, u, r1, u, π', rfl, z, m.inv, r2⟩
    | ret => exact ⟨m.defers, u, r1, u, π', rfl, z, m.inv, r2⟩
    | exit id => exact (hx id rfl).elim
   split at h
   · cases h
   · rename_i x st E he
     split at h
     · rename_i j D
       cases h
       exact fin x st j (fun id e => E id e) he D rfl rfl
     · cases h
   · cases h
end
end Go.Eng


namespace Go.Eng
open Go Go.RowKit
variable [Dr]
section
variable {w : World} {mu mu' : Nat -> Prop} {π π' : List (Option PB)}
theorem qc {f : AV -> Option AV} (m : ∀ A v q, Rv w mu π A v -> f A = some q -> Rv w mu' π' q v) : ∀ (cs cs' : List AV) (b o : Nat), RvC w mu π cs b o -> oq f cs = some cs' -> RvC w mu' π' cs' b o /\ cs'.length = cs.length
 | [], cs', b, o, _, h => by cases h; exact ⟨trivial, rfl⟩
 | c :: cs, cs', b, o, hc, h => by
  simp only [oq] at h
  split at h
  · rename_i y ys z j
    cases h
    obtain ⟨⟨v, h1, h2, C⟩, D⟩ := hc
    obtain ⟨i1, i2⟩ := qc m cs ys b (o + 1) D j
    exact ⟨⟨⟨v, h1, h2, m c v y C z⟩, i1⟩, by simp [i2]⟩
  · cases h
theorem lP {f : AV -> Option AV} (z : ∀ A v C, Rv w mu π A v -> f A = some C -> Rv w mu' π' C v) : ∀ (cs cs' : List AV) (vs : List Value), RvL w mu π cs vs -> oq f cs = some cs' -> RvL w mu' π' cs' vs
 | [], cs', vs, m, h => by cases h; cases m; rfl
 | c :: cs, cs', vs, m, h => by
  simp only [oq] at h
  split at h
  · rename_i y ys D q
    cases h
    obtain ⟨v, j, rfl, E, I⟩ := m
    exact ⟨v, j, rfl, z c v y E D, lP z cs ys j I q⟩
  · cases h
theorem Ext.less (h : ∀ b, mu' b -> mu b) : Ext (fun _ => False) w w mu mu' π π := ⟨fun _ _ => rfl, Nat.le_refl _, fun b _ hb => ⟨rfl, fun j => hb (h b j)⟩, fun _ _ h => h, rfl, rfl, rfl, fun _ => Nat.le_refl _⟩
def wH (w : World) (mu mu' : Nat -> Prop) (π : List (Option PB)) (H : List Blk) (ok : Nat -> Bool) : Prop :=
 ∀ (b : Nat) (p : PB) (cs : List AV), ok b = true -> (H[b]? = some (.own cs) \/ H[b]? = some (.fix cs)) -> π[b]? = some (some p) -> RvC w mu π cs p.blk p.off /\ ¬ mu' p.blk
theorem nq {H : List Blk} {ok : Nat -> Bool} (Y : wH w mu mu' π H ok) (a0 : ∀ b, mu' b -> mu b) : ∀ (n : Nat) (A D : AV) (v : Value), Rv w mu π A v -> iZ H ok n A = some D -> Rv w mu' [] D v := by
 have U : Ext (fun _ => False) w w mu mu' [] [] := Ext.less a0
 intro n
 induction n with
 | zero =>
  intro A D v C h
  cases A <;> simp only [iZ] at h
  case unk => cases h; trivial
  case «at» => cases h; exact C
  case sl nl cs len => cases h; exact Rv.ext U (.sl nl cs len) v C
  case pp cs off => cases h; exact Rv.ext U (.pp cs off) v C
  all_goals cases h
 | succ n I =>
  intro A D v C h
  cases A <;> simp only [iZ] at h
  case unk => cases h; trivial
  case «at» => cases h; exact C
  case sl nl cs len => cases h; exact Rv.ext U (.sl nl cs len) v C
  case pp cs off => cases h; exact Rv.ext U (.pp cs off) v C
  case hs b off len es =>
   split at h
   · rename_i cs m E q
     split at h
     · rename_i cs' j
       cases h
       rcases C with ⟨rfl, rfl⟩ | ⟨p, a, cap, h1, rfl, h2, J, h3⟩
       · have : cs = [] /\ m = 0 := by
          simp only [gw] at q
          split at q
          · split at q
            · cases q; simp
            · cases q
          · split at q
            · cases q; simp
            · cases q
          · cases q
         obtain ⟨rfl, rfl⟩ := this
         cases j
         exact .inl ⟨rfl, rfl, rfl, rfl⟩
       obtain ⟨ab, ao, a2⟩ := a
       simp only at J; subst J
       have key : ∀ c : List AV, (H[b]? = some (.own c) \/ H[b]? = some (.fix c)) -> off + len * es <= c.length -> cs = (c.drop off).take (len * es) -> m = len -> Rv w mu' [] (.sl true cs' m) (.slice (some ⟨ab, ao, none⟩) len cap) := by
        intro c hc hle e1 e2
        subst e1; subst e2
        obtain ⟨g1, M⟩ := Y b p c E hc h1
        have hr := RvC.take (m * es) _ _ _ (RvC.drop off c _ _ g1)
        obtain ⟨N, k2⟩ := qc (fun A v D C z => I A D v C z) _ cs' _ _ hr j
        by_cases O : 0 < cap
        · obtain ⟨e1, _⟩ := h3 O
          cases e1
          exact .inr (.inl ⟨_, _, cap, rfl, h2, fun _ => M, N⟩)
        · have hm : m = 0 := by omega
          subst hm
          have : cs' = [] := by rw [<- List.length_eq_zero_iff, k2]; simp
          subst this
          exact .inr (.inl ⟨_, _, cap, rfl, h2, fun h => (h rfl).elim, trivial⟩)
       simp only [gw] at q
       split at q
       · rename_i c hc
         split at q
         · rename_i hle; cases q; exact key c (.inl hc) (by simpa using hle) rfl rfl
         · cases q
       · rename_i c hc
         split at q
         · rename_i hle; cases q; exact key c (.inr hc) (by simpa using hle) rfl rfl
         · cases q
       · cases q
     · cases h
   · cases h
  case hp b off =>
   obtain ⟨p, h1, rfl⟩ := C
   split at h
   · rename_i c E hc
     split at h
     · rename_i cs' j
       cases h
       obtain ⟨g1, M⟩ := Y b p c E (.inl hc) h1
       obtain ⟨N, _⟩ := qc (fun A v D C z => I A D v C z) _ cs' _ _ g1 j
       exact ⟨_, _, rfl, fun _ => M, N⟩
     · cases h
   · rename_i c E hc
     split at h
     · rename_i cs' j
       cases h
       obtain ⟨g1, M⟩ := Y b p c E (.inr hc) h1
       obtain ⟨N, _⟩ := qc (fun A v D C z => I A D v C z) _ cs' _ _ g1 j
       exact ⟨_, _, rfl, fun _ => M, N⟩
     · cases h
   · cases h
  case mp b => cases h
  case agg cs =>
   split at h
   · rename_i cs' j
     cases h
     obtain ⟨vs, rfl, hv⟩ := C
     exact ⟨vs, rfl, lP (fun A v D C z => I A D v C z) _ cs' _ hv j⟩
   · cases h
  case tup cs =>
   split at h
   · rename_i cs' j
     cases h
     obtain ⟨vs, rfl, hv⟩ := C
     exact ⟨vs, rfl, lP (fun A v D C z => I A D v C z) _ cs' _ hv j⟩
   · cases h
  case fn f fs cs =>
   split at h
   · rename_i a1 cs' T j
     cases h
     obtain ⟨a, c, rfl, h1, h2⟩ := C
     exact ⟨a, c, rfl, lP (fun A v D C z => I A D v C z) _ a1 _ h1 T, lP (fun A v D C z => I A D v C z) _ cs' _ h2 j⟩
   · cases h
theorem AJ {H : List Blk} {ok : Nat -> Bool} (J : wH w mu mu' π H ok) (D : ∀ b, mu' b -> mu b) {ρ : Nat -> Option Nat} (hρ : ∀ b c, ρ b = some c -> ∀ p, π[b]? = some (some p) -> π'[c]? = some (some p)) :
  ∀ (n : Nat) (A j : AV) (v : Value), Rv w mu π A v -> AX H ok ρ n A = some j -> Rv w mu' π' j v := by
 have hs : ∀ (n : Nat) (A j : AV) (v : Value), Rv w mu π A v -> iZ H ok n A = some j -> Rv w mu' π' j v := fun n A j v m h => (nq J D n A j v m h).lift
 have leaf : ∀ (n : Nat) (b off len es : Nat) (j : AV) (v : Value), Rv w mu π (.hs b off len es) v -> (match ρ b with | some c => some (AV.hs c off len es) | none => iZ H ok n (.hs b off len es)) = some j -> Rv w mu' π' j v := by
  intro n b off len es j v m h
  split at h
  · rename_i c hc
    cases h
    rcases m with m | ⟨p, a, cap, h1, h2⟩
    · exact .inl m
    · exact .inr ⟨p, a, cap, hρ b c hc p h1, h2⟩
  · exact hs n _ _ v m h
 have q : ∀ (n : Nat) (b off : Nat) (j : AV) (v : Value), Rv w mu π (.hp b off) v -> (match ρ b with | some c => some (AV.hp c off) | none => iZ H ok n (.hp b off)) = some j -> Rv w mu' π' j v := by
  intro n b off j v m h
  split at h
  · rename_i c hc
    cases h
    obtain ⟨p, h1, h2⟩ := m
    exact ⟨p, hρ b c hc p h1, h2⟩
  · exact hs n _ _ v m h
 intro n
 induction n with
 | zero =>
  intro A j v m h
  cases A <;> simp only [AX] at h
  case hs b off len es => exact leaf 0 b off len es j v m h
  case hp b off => exact q 0 b off j v m h
  all_goals exact hs 0 _ j v m h
 | succ n I =>
  intro A j v m h
  cases A <;> simp only [AX] at h
  case hs b off len es => exact leaf (n + 1) b off len es j v m h
  case hp b off => exact q (n + 1) b off j v m h
  case agg cs =>
   split at h
   · rename_i cs' z
     cases h
     obtain ⟨vs, rfl, E⟩ := m
     exact ⟨vs, rfl, lP (fun A v j m C => I A j v m C) _ cs' _ E z⟩
   · cases h
  case tup cs =>
   split at h
   · rename_i cs' z
     cases h
     obtain ⟨vs, rfl, E⟩ := m
     exact ⟨vs, rfl, lP (fun A v j m C => I A j v m C) _ cs' _ E z⟩
   · cases h
  all_goals exact hs (n + 1) _ j v m h
mutual
theorem tO {w' : World} {m : Nat -> Prop} {π2 : List (Option PB)} : (A : AV) -> (v : Value) -> pF A = false -> Rv w mu π A v -> Rv w' m π2 A v
 | .unk, _, _, _ => trivial
 | .at x, v, _, h => h
 | .agg cs, v, j, h => by
  obtain ⟨vs, rfl, q⟩ := h
  exact ⟨vs, rfl, mX cs _ (by simpa [pF] using j) q⟩
 | .tup cs, v, j, h => by
  obtain ⟨vs, rfl, q⟩ := h
  exact ⟨vs, rfl, mX cs _ (by simpa [pF] using j) q⟩
 | .fn f z cs, v, j, h => by
  obtain ⟨a, c, rfl, h1, h2⟩ := h
  simp only [pF, Bool.or_eq_false_iff] at j
  exact ⟨a, c, rfl, mX z _ j.1 h1, mX cs _ j.2 h2⟩
 | .sl .., _, j, _ | .pp .., _, j, _ | .hs .., _, j, _ | .hp .., _, j, _ | .mp .., _, j, _ => by simp [pF] at j
theorem mX {w' : World} {m : Nat -> Prop} {π2 : List (Option PB)} : (cs : List AV) -> (vs : List Value) -> pf cs = false -> RvL w mu π cs vs -> RvL w' m π2 cs vs
 | [], vs, _, h => h
 | c :: cs, vs, q, h => by
  obtain ⟨v, j, rfl, h1, h2⟩ := h
  simp only [pf, Bool.or_eq_false_iff] at q
  exact ⟨v, j, rfl, tO c v q.1 h1, mX cs j q.2 h2⟩
end
end
section
variable {P : Program} {out : Nat -> Prop} {B : Nat -> Prop} {w : World} {π : List (Option PB)} {H : List Blk}
theorem Inv.BJ (C : Inv out B w π H) {b : Nat} {cs : List AV} (h : H[b]? = some (.own cs) \/ H[b]? = some (.fix cs)) :
  Inv out B w π (upd H b (.fix cs)) /\ Ext B w w (aJ out π H) (aJ out π (upd H b (.fix cs))) π π := by
 have J : b < H.length := by rcases h with h | h <;> exact aT h
 have hu : upd H b (.fix cs) = H.set b (.fix cs) := by simp [upd, J]
 rw [hu]
 rcases h with h | h
 · cases hp : π[b]? with
   | none => have := List.getElem?_eq_none_iff.1 hp; have := C.len; omega
   | some op =>
    cases op with
    | some p =>
     obtain ⟨h1, h2⟩ := C.tG h hp rfl (.fix cs) (w' := w) rfl (fun _ _ => rfl) rfl rfl rfl (fun _ => Nat.le_refl _) (fun N => RvC.ext N cs _ _ rfl (fC C (.inl h) hp))
     exact ⟨h2, h1⟩
    | none =>
     have D : ∀ x, aJ out π (H.set b (.fix cs)) x -> aJ out π H x := by
      rintro x (U | ⟨i, y, p, g1, z, E, M⟩)
      · exact .inl U
      · rcases fZ g1 with ⟨rfl, rfl⟩ | ⟨_, m⟩
        · simp [Blk.hZ] at z
        · exact .inr ⟨i, y, p, m, z, E, M⟩
     have N : Ext B w w (aJ out π H) (aJ out π (H.set b (.fix cs))) π π := ⟨fun _ _ => rfl, Nat.le_refl _, fun x _ hx => ⟨rfl, fun O => hx (D x O)⟩, fun _ _ h => h, rfl, rfl, rfl, fun _ => Nat.le_refl _⟩
     refine ⟨⟨by simp [C.len], C.bound, C.out_lt, ?_, ?_, ?_⟩, N⟩
     · intro i x q g1 z E
       rcases fZ g1 with ⟨rfl, _⟩ | ⟨_, m⟩
       · rw [hp] at z; cases z
       · exact C.base i x q m z E
     · intro i x q g1 z
       rcases fZ g1 with ⟨rfl, _⟩ | ⟨_, m⟩
       · rw [hp] at z; cases z
       · exact gr.ext N (fun _ => rfl) (C.ok i x q m z)
     · intro i j x y q r I g1 z E M Y g6
       rcases fZ g1 with ⟨rfl, _⟩ | ⟨_, m⟩
       · rw [hp] at E; cases E
       · rcases fZ z with ⟨rfl, _⟩ | ⟨_, T⟩
         · rw [hp] at M; cases M
         · exact C.sep i j x y q r I m T E M Y g6
 · have he : H.set b (.fix cs) = H := by
    apply List.ext_getElem?
    intro j
    rw [List.getElem?_set]
    split
    · rename_i I; subst I; first | exact h.symm | (rw [if_pos J]; exact h.symm)
    · rfl
   rw [he]
   exact ⟨C, Ext.refl _ _ _⟩
theorem iD : ∀ (l : List Nat) (H' : List Blk) (j : List Blk), Inv out B w π H' -> (∀ b ∈ l, b < j.length -> (H'[b]? = j[b]? \/ ∃ cs, j[b]? = some (.own cs) /\ H'[b]? = some (.fix cs))) ->
  Inv out B w π (aM H' (cA j l)) /\ Ext B w w (aJ out π H') (aJ out π (aM H' (cA j l))) π π /\
  (aM H' (cA j l)).length = H'.length /\ (∀ b ∈ l, ∀ cs, j[b]? = some (.own cs) -> (aM H' (cA j l))[b]? = some (.fix cs)) /\
  (∀ b, (∀ cs, b ∈ l -> j[b]? ≠ some (.own cs)) -> (aM H' (cA j l))[b]? = H'[b]?)
 | [], H', j, E, _ => ⟨E, Ext.refl _ _ _, rfl, by simp, fun _ _ => rfl⟩
 | b :: l, H', j, E, C => by
  cases hb : j[b]? with
  | none =>
   have e : cA j (b :: l) = cA j l := by simp [cA, hb]
   rw [e]
   obtain ⟨h1, h2, I, J, D⟩ := iD l H' j E (fun x hx => C x (by simp [hx]))
   refine ⟨h1, h2, I, fun x hx cs m => ?_, fun x hx => D x fun cs hm => hx cs (by simp [hm])⟩
   rcases List.mem_cons.1 hx with rfl | hx
   · rw [hb] at m; cases m
   · exact J x hx cs m
  | some y =>
   have other : (∀ cs, y ≠ .own cs) -> cA j (b :: l) = cA j l := by
    intro O
    cases y with
    | own cs => exact (O cs rfl).elim
    | _ => simp [cA, hb]
   by_cases O : ∃ cs, y = .own cs
   · obtain ⟨cs, rfl⟩ := O
     have e : cA j (b :: l) = (b, .fix cs) :: cA j l := by simp [cA, hb]
     rw [e]
     have T : b < j.length := aT hb
     have M : H'[b]? = some (.own cs) \/ H'[b]? = some (.fix cs) := by
      rcases C b (by simp) T with h | ⟨cs', h1, h2⟩
      · left; rw [h]; exact hb
      · rw [hb] at h1; cases h1; exact .inr h2
     have a2 : b < H'.length := by rcases M with h | h <;> exact aT h
     obtain ⟨U, Y⟩ := E.BJ M
     have a0 : (upd H' b (.fix cs)).length = H'.length := by rw [dm (by omega), if_neg (by omega)]
     obtain ⟨h1, h2, I, J, D⟩ := iD l (upd H' b (.fix cs)) j U (fun x hx q => by
      rw [fb (by omega)]
      split
      · rename_i e0; subst e0; exact .inr ⟨cs, hb, rfl⟩
      · exact C x (by simp [hx]) q)
     refine ⟨h1, Y.trans h2, by rw [aM, I, a0], fun x hx cs' z => ?_, fun x hx => ?_⟩
     · by_cases q : x ∈ l
       · exact J x q cs' z
       · rcases List.mem_cons.1 hx with rfl | hx
         · rw [hb] at z; cases z
           rw [aM, D x (fun _ hm => (q hm).elim), fb (by omega), if_pos rfl]
         · exact (q hx).elim
     · have a1 : x ≠ b := by rintro rfl; exact hx cs (by simp) hb
       rw [aM, D x (fun cs' hm => hx cs' (by simp [hm])), fb (by omega), if_neg a1]
   · have N : ∀ cs, y ≠ .own cs := fun cs e => O ⟨cs, e⟩
     rw [other N]
     obtain ⟨h1, h2, I, J, D⟩ := iD l H' j E (fun x hx => C x (by simp [hx]))
     refine ⟨h1, h2, I, fun x hx cs m => ?_, fun x hx => D x fun cs hm => hx cs (by simp [hm])⟩
     rcases List.mem_cons.1 hx with rfl | hx
     · rw [hb] at m; cases m; exact (N cs rfl).elim
     · exact J x hx cs m
theorem Inv.F0 {w' : World} (m : Inv out B w π H) (j : ∀ b, b < w.heap.size -> w'.heap[b]? = w.heap[b]?) (q : w.heap.size <= w'.heap.size) (C : w'.os = w.os) (D : w'.tape = w.tape) (hu : w'.output = w.output) (hd : Dr.d = true -> w.drawn <= w'.drawn) :
  Inv out B w' π H /\ Ext B w w' (aJ out π H) (aJ out π H) π π := by
 have z : Ext B w w' (aJ out π H) (aJ out π H) π π := ⟨fun b hb => j b (m.bound b hb), q, fun b hb h => ⟨j b hb, h⟩, fun _ _ h => h, C, D, hu, hd⟩
 refine ⟨⟨m.len, fun b hb => by have := m.bound b hb; omega, m.out_lt, fun i x p h1 h2 E => by have := m.base i x p h1 h2 E; exact ⟨this.1, by omega⟩, fun i x p h1 h2 => gr.ext z (fun I => j _ (m.base i x p h1 h2 I).2) (m.ok i x p h1 h2), m.sep⟩, z⟩
theorem Inv.Du (z : Inv out B w π H) {w' : World} (m : ∀ b, b < w.heap.size -> w'.heap[b]? = w.heap[b]?) (M : w.heap.size <= w'.heap.size) (ho : w'.os = w.os) (ht : w'.tape = w.tape) (hu : w'.output = w.output) (hd : Dr.d = true -> w.drawn <= w'.drawn)
  {π' : List (Option PB)} {H' : List Blk} (N : π'.length = H'.length) (I : ∀ (i : Nat) (p : PB), π[i]? = some (some p) -> π'[i]? = some (some p))
  (hs : ∀ (j : Nat) (x : Blk) (p : PB), H'[j]? = some x -> π'[j]? = some (some p) -> (H[j]? = some x /\ π[j]? = some (some p)) \/
   (w.heap.size <= p.blk /\ p.blk < w'.heap.size /\ (∀ (i : Nat) (y : Blk) (q : PB), i ≠ j -> H'[i]? = some y -> π'[i]? = some (some q) -> y.isLive = true -> q.blk ≠ p.blk) /\
    (Ext B w w' (aJ out π H) (aJ out π' H') π π' -> gr w' (aJ out π' H') π' p x))) :
  Inv out B w' π' H' /\ Ext B w w' (aJ out π H) (aJ out π' H') π π' := by
 have O : Ext B w w' (aJ out π H) (aJ out π' H') π π' := by
  refine ⟨fun b hb => m b (z.bound b hb), M, fun b hb Y => ⟨m b hb, ?_⟩, I, ho, ht, hu, hd⟩
  rintro (T | ⟨i, x, p, h1, h2, E, J⟩)
  · exact Y (.inl T)
  · rcases hs i x p h1 E with ⟨g1, U⟩ | ⟨g, _⟩
    · exact Y (.inr ⟨i, x, p, g1, h2, U, J⟩)
    · omega
 refine ⟨⟨N, fun b hb => by have := z.bound b hb; omega, z.out_lt, ?_, ?_, ?_⟩, O⟩
 · intro i x p h1 h2 E
   rcases hs i x p h1 h2 with ⟨g1, C⟩ | ⟨g1, C, _⟩
   · have := z.base i x p g1 C E; exact ⟨this.1, by omega⟩
   · exact ⟨fun hb => by have := z.bound _ hb; omega, C⟩
 · intro i x p h1 h2
   rcases hs i x p h1 h2 with ⟨g1, C⟩ | ⟨_, _, _, g⟩
   · exact gr.ext O (fun N => m _ (z.base i x p g1 C N).2) (z.ok i x p g1 C)
   · exact g O
 · intro i j x y p q D h1 h2 E J h5 h6
   rcases hs i x p h1 E with ⟨g1, U⟩ | ⟨_, _, g, _⟩
   · rcases hs j y q h2 J with ⟨C, g4⟩ | ⟨_, _, g, _⟩
     · exact z.sep i j x y p q D g1 C U g4 h5 h6
     · exact g i x p D h1 E (Blk.bF h5)
   · exact fun e => g j y q (fun e => D e.symm) h2 J h6 e.symm
def zL (l : List (Option PB)) (n : Nat) (ps : List (Option PB)) : List (Option PB) := l.take n ++ (ps ++ l.drop (n + ps.length))
theorem zy {l ps : List (Option PB)} {n : Nat} (h : n + ps.length <= l.length) : (zL l n ps).length = l.length := by
 simp only [zL, List.length_append, List.length_take, List.length_drop]; omega
theorem E3 {l ps : List (Option PB)} {n j : Nat} (h : n + ps.length <= l.length) (q : j < ps.length) : (zL l n ps)[n + j]? = ps[j]? := by
 have m : (l.take n).length = n := by rw [List.length_take]; omega
 rw [zL, List.getElem?_append_right (by omega), m, List.getElem?_append_left (by omega)]
 congr 1; omega
theorem Dw {l ps : List (Option PB)} {n j : Nat} (h : n + ps.length <= l.length) (m : j < n \/ n + ps.length <= j) : (zL l n ps)[j]? = l[j]? := by
 have q : (l.take n).length = n := by rw [List.length_take]; omega
 rcases m with m | m
 · rw [zL, List.getElem?_append_left (by omega), List.getElem?_take, if_pos m]
 · rw [zL, List.getElem?_append_right (by omega), q, List.getElem?_append_right (by omega), List.getElem?_drop]
   congr 1; omega
theorem sH : ∀ (new : List (List AV)) (n : Nat) (H : List Blk), n + new.length <= H.length -> (aM H (jw n new)).length = H.length /\
  (∀ j, j < new.length -> (aM H (jw n new))[n + j]? = (new[j]?).map Blk.own) /\ (∀ j, j < n \/ n + new.length <= j -> (aM H (jw n new))[j]? = H[j]?)
 | [], n, H, h => ⟨rfl, by simp, fun _ _ => rfl⟩
 | x :: xs, n, H, h => by
  simp only [List.length_cons] at h
  have z : (upd H n (.own x)).length = H.length := by rw [dm (by omega), if_neg (by omega)]
  obtain ⟨h1, h2, q⟩ := sH xs (n + 1) (upd H n (.own x)) (by omega)
  refine ⟨by simp only [jw, aM, h1, z], fun j m => ?_, fun j m => ?_⟩
  · simp only [List.length_cons] at m
    simp only [jw, aM]
    cases j with
    | zero => rw [q _ (.inl (by omega)), fb (by omega), if_pos (by omega)]; rfl
    | succ j =>
     rw [show n + (j + 1) = n + 1 + j by omega, h2 j (by omega)]
     simp
  · simp only [List.length_cons] at m
    simp only [jw, aM]
    rw [q j (by omega), fb (by omega), if_neg (by omega)]
theorem sF : ∀ (new : List (List AV)) (n j : Nat), j < new.length -> ∃ b, (n + j, b) ∈ jw n new
 | [], _, _, h => by simp at h
 | x :: xs, n, 0, _ => ⟨_, List.mem_cons_self⟩
 | x :: xs, n, j + 1, h => by
  obtain ⟨b, hb⟩ := sF xs (n + 1) j (by simpa using h)
  exact ⟨b, by rw [show n + (j + 1) = n + 1 + j by omega]; exact List.mem_cons_of_mem _ hb⟩
theorem wu : ∀ (a b : List (Nat × Blk)) (H : List Blk), aM H (a ++ b) = aM (aM H a) b
 | [], _, _ => rfl
 | (_, _) :: a, b, _ => by simp only [List.cons_append, aM]; exact wu a b _
theorem uu : ∀ (l : List Nat) (x base c : Nat), findAt l x base = some c -> ∃ k, l[k]? = some x /\ c = base + k
 | [], _, _, _, h => by simp [findAt] at h
 | y :: ys, x, base, c, h => by
  simp only [findAt] at h
  split at h
  · rename_i e; cases h; exact ⟨0, by simp [e], rfl⟩
  · obtain ⟨k, h1, h2⟩ := uu ys x (base + 1) c h
    exact ⟨k + 1, by simpa using h1, by omega⟩
theorem w6 : ∀ (l : List Nat), wi l = true -> ∀ (i j x y : Nat), i ≠ j -> l[i]? = some x -> l[j]? = some y -> x ≠ y
 | [], _, i, _, _, _, _, h, _ => by simp at h
 | z :: l, h, i, j, x, y, m, h1, h2 => by
  simp only [wi, Bool.and_eq_true, Bool.not_eq_true'] at h
  have q : z ∉ l := by have := h.1; simpa using this
  cases i with
  | zero =>
   simp only [List.getElem?_cons_zero, Option.some.injEq] at h1
   cases j with
   | zero => exact (m rfl).elim
   | succ j =>
    simp only [List.getElem?_cons_succ] at h2
    rintro rfl; subst h1; exact q (List.mem_of_getElem? h2)
  | succ i =>
   simp only [List.getElem?_cons_succ] at h1
   cases j with
   | zero =>
    simp only [List.getElem?_cons_zero, Option.some.injEq] at h2
    rintro rfl; subst h2; exact q (List.mem_of_getElem? h1)
   | succ j =>
    simp only [List.getElem?_cons_succ] at h2
    exact w6 l h.2 i j x y (by omega) h1 h2
theorem wx {G : List Blk} {ok : Nat -> Bool} {n : Nat} : ∀ (σ : List Nat) (new : List (List AV)), tL G ok n σ = some new -> new.length = σ.length /\
  ∀ (k b : Nat), σ[k]? = some b -> ∃ cs cs', G[b]? = some (Blk.own cs) /\ oq (iZ G ok n) cs = some cs' /\ new[k]? = some cs'
 | [], new, h => by cases h; exact ⟨rfl, fun k b h => by simp at h⟩
 | b :: q, new, h => by
  simp only [tL] at h
  split at h
  · rename_i cs hb
    split at h
    · rename_i cs' l j z
      cases h
      obtain ⟨h1, h2⟩ := wx q l z
      refine ⟨by simp [h1], fun k C m => ?_⟩
      cases k with
      | zero => simp at m; subst m; exact ⟨cs, cs', hb, j, rfl⟩
      | succ k => simpa using h2 k C (by simpa using m)
    · cases h
  · cases h
end
end Go.Eng


namespace Go.Eng
open Go Go.RowKit
variable [Dr]
def mZ (P : Program) (f : FuncId) (F : List AV -> Option AV) : Prop :=
 ∀ args r, F args = some r -> ∀ (out : Nat -> Prop) (w : World) (vs : List Value), (∀ b, out b -> b < w.heap.size) -> RvL w out [] args vs ->
  Calls P f vs.toArray w fun e w' => ∃ u, e = .returned u /\ Ext (Lo w.heap.size) w w' out out [] [] /\ Rv w' out [] r u
section
variable {P : Program} {out : Nat -> Prop} {B : Nat -> Prop} {w w' : World} {π πG : List (Option PB)} {H H' G : List Blk}
theorem js : aJ out [] [] = out := by
 funext b
 apply propext
 constructor
 · rintro (h | ⟨i, x, p, h, _⟩)
   · exact h
   · simp at h
 · exact .inl
theorem ya (j : Inv out B w π H) : ∀ b, aJ out π H b -> b < w.heap.size := by
 rintro b (h | ⟨i, x, p, h1, h2, m, q⟩)
 · exact j.bound _ (j.out_lt b h)
 · have := j.base i x p h1 m (Blk.bF h2); omega
theorem Ext.yq (j : Inv out B w π H) {π' : List (Option PB)} {mu : Nat -> Prop} (m : Ext B w w mu (aJ out π H) π' π) : ∀ b, aJ out π H b -> mu b := by
 intro b hb
 by_cases h : mu b
 · exact h
 · exact ((m.keep b (ya j b hb) h).2 hb).elim
theorem zM {l : List Nat} {n : Nat} {r v : AV} {ws : List (Nat × Blk)} {rd : List Nat} {m : Nat} (hb : pv n l H G r = some (.loc v ws rd m))
  (hlen : H.length + m <= H'.length) (a7 : ∀ b ∈ rd, b < H.length -> H'[b]? = H[b]?) (hI : Inv out B w π H') (hπ : ∀ j, H.length <= j -> j < H.length + m -> ∀ q, π[j]? ≠ some (some q))
  {u : Value} (E : Ext (Lo w.heap.size) w w' (aJ out π (aM H' (cA H l))) (aJ (aJ out π (aM H' (cA H l))) πG G) [] πG) (hG : Inv (aJ out π (aM H' (cA H l))) (Lo w.heap.size) w' πG G)
  (hr : Rv w' (aJ (aJ out π (aM H' (cA H l))) πG G) πG r u) :
  ∃ π', Ext B w w' (aJ out π H') (aJ out π' (aM H' ws)) π π' /\ Inv out B w' π' (aM H' ws) /\ Rv w' (aJ out π' (aM H' ws)) π' v u /\ ∀ j, (∀ b, (j, b) ∉ ws) -> π'[j]? = π[j]? := by
 unfold pv at hb
 split at hb
 · rename_i a8
   cases hb
   obtain ⟨g1, z⟩ := hI.F0 (w' := w') (fun b hb => E.low b hb) E.size E.os E.tape E.output E.drawn
   exact ⟨π, z, g1, tO _ _ a8 hr, fun _ _ => rfl⟩
 · simp only at hb
   split at hb
   · rename_i new r' a9 a0 a1
     cases hb
     generalize hσ : List.foldl p8 [] ((mf r).filter fun b => AK G[b]?) = σ at *
     obtain ⟨C, b0, c3, c4, c5⟩ := iD l H' H hI (fun b hb a2 => .inl (a7 b hb a2))
     generalize b1 : aM H' (cA H l) = Hf at *
     obtain ⟨b3, b4⟩ := wx σ new a0
     rw [wu, b1]
     obtain ⟨e1, e2, e3⟩ := sH new H.length Hf (by omega)
     have hπl := C.len
     have c0 : (σ.map fun b => (πG[b]?).getD none).length = new.length := by simp [b3]
     generalize hps : (σ.map fun b => (πG[b]?).getD none) = ps at *
     have ol := zy (l := π) (ps := ps) (n := H.length) (by omega)
     have oi := fun j (O : j < ps.length) => E3 (l := π) (ps := ps) (n := H.length) (j := j) (by omega) O
     have oo := fun j (O : j < H.length \/ H.length + ps.length <= j) => Dw (l := π) (ps := ps) (n := H.length) (j := j) (by omega) O
     generalize hπ' : zL π H.length ps = π' at *
     generalize c1 : aM Hf (jw H.length new) = J at *
     have I : ∀ (k : Nat) (p : PB), ps[k]? = some (some p) -> ∃ b, σ[k]? = some b /\ πG[b]? = some (some p) := by
      intro k p h
      rw [<- hps, List.getElem?_map] at h
      cases hk : σ[k]? with
      | none => rw [hk] at h; cases h
      | some b =>
       rw [hk] at h
       refine ⟨b, rfl, ?_⟩
       cases hb : πG[b]? with
       | none => simp [hb] at h
       | some q => simpa [hb] using h
     have a3 : ∀ (i : Nat) (p : PB), π[i]? = some (some p) -> π'[i]? = some (some p) := by
      intro i p h
      rw [oo i]
      · exact h
      · by_cases hi : H.length <= i /\ i < H.length + new.length
        · exact (hπ i hi.1 hi.2 p h).elim
        · omega
     have key : ∀ (j : Nat) (x : Blk) (p : PB), J[j]? = some x -> π'[j]? = some (some p) -> (Hf[j]? = some x /\ π[j]? = some (some p)) \/
       ∃ k b cs cs', j = H.length + k /\ σ[k]? = some b /\ πG[b]? = some (some p) /\ G[b]? = some (.own cs) /\ oq (iZ G (fun b => !σ.contains b) n) cs = some cs' /\ x = .own cs' := by
      intro j x p h1 h2
      by_cases O : j < H.length \/ H.length + new.length <= j
      · rw [e3 j O] at h1
        rw [oo j (by omega)] at h2
        exact .inl ⟨h1, h2⟩
      · obtain ⟨k, rfl⟩ : ∃ k, j = H.length + k := ⟨j - H.length, by omega⟩
        rw [oi k (by omega)] at h2
        obtain ⟨b, D, T⟩ := I k p h2
        obtain ⟨cs, cs', g1, z, M⟩ := b4 k b D
        rw [e2 k (by omega), M] at h1
        simp only [Option.map_some, Option.some.injEq] at h1
        exact .inr ⟨k, b, cs, cs', rfl, D, T, g1, z, h1.symm⟩
     have N : ∀ b, aJ out π' J b -> aJ (aJ out π Hf) πG G b := by
      rintro b (h | ⟨i, x, p, h1, h2, h3, h4⟩)
      · exact .inl (.inl h)
      · rcases key i x p h1 h3 with ⟨g1, z⟩ | ⟨k, U, cs, cs', _, _, M, g4, _, _⟩
        · exact .inl (.inr ⟨i, x, p, g1, h2, z, h4⟩)
        · exact .inr ⟨U, .own cs, p, g4, rfl, M, h4⟩
     have hL : wH w' (aJ (aJ out π Hf) πG G) (aJ out π' J) πG G (fun b => !σ.contains b) := by
      intro b p cs b5 a4 hp
      refine ⟨fC hG a4 hp, ?_⟩
      have Y : ∃ y, G[b]? = some y /\ y.isLive = true := by rcases a4 with h | h <;> exact ⟨_, h, rfl⟩
      obtain ⟨y, hy, a5⟩ := Y
      have a6 := (hG.base b y p hy hp a5).1
      rintro (h | ⟨i, x, q, h1, h2, h3, h4⟩)
      · exact a6 (C.bound _ (C.out_lt _ h))
      · rcases key i x q h1 h3 with ⟨g1, z⟩ | ⟨k, U, cs', c2, _, z, M, g4, _, _⟩
        · exact a6 (h4 ▸ (C.base i x q g1 z (Blk.bF h2)).2)
        · refine hG.sep U b (.own cs') y q p ?_ g4 hy M hp rfl a5 h4
          rintro rfl
          have := List.mem_of_getElem? z
          simp [this] at b5
     obtain ⟨hA, b6⟩ := C.Du (w' := w') (π' := π') (H' := J) (fun b hb => E.low b hb) E.size E.os E.tape E.output E.drawn (by omega) a3 (by
      intro j x p h1 h2
      rcases key j x p h1 h2 with h | ⟨k, b, cs, cs', rfl, g1, z, M, g4, rfl⟩
      · exact .inl h
      · refine .inr ?_
        obtain ⟨D, T⟩ := hG.base b _ p M z rfl
        have D := Nat.le_of_not_lt D
        refine ⟨D, T, ?_, fun _ => ?_⟩
        · intro i y q c6 k1 k2 k3
          rcases key i y q k1 k2 with ⟨m1, m2⟩ | ⟨k', U, ds, c7, rfl, m1, m2, m3, m4, rfl⟩
          · have := (C.base i y q m1 m2 k3).2; omega
          · have b7 : U ≠ b := w6 σ a9 k' k U b (by omega) m1 g1
            exact hG.sep U b _ _ q p b7 m3 M m2 z rfl rfl
        · obtain ⟨o1, o2⟩ := hG.ok b _ p M z
          exact ⟨o1, (qc (fun A v A' hA b8 => nq hL N _ A A' v hA b8) cs cs' _ _ o2 g4).1.lift⟩)
     refine ⟨π', b0.trans b6, hA, ?_, fun j O => oo j ?_⟩
     · refine AJ hL N (ρ := fun b => findAt σ b H.length) ?_ n r v u hr a1
       intro b c b9 p hp
       obtain ⟨k, hk, rfl⟩ := uu σ b H.length c b9
       have c8 : k < σ.length := aT hk
       rw [oi k (by omega), <- hps, List.getElem?_map, hk]
       simp [hp]
     · by_cases a2 : j < H.length \/ H.length + new.length <= j
       · omega
       · obtain ⟨k, rfl⟩ : ∃ k, j = H.length + k := ⟨j - H.length, by omega⟩
         obtain ⟨b, hb⟩ := sF new H.length k (by omega)
         exact (O b (List.mem_append_right _ hb)).elim
   · cases hb
end
end Go.Eng

