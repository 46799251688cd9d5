import Derived.Test.YtecdcgfclgmbpaaGreatSc6Apas
import Derived.KernelRfl
import Derived.Scope
set_option linter.all false
namespace Go.Eng
open Go Go.RowKit
variable [Dr]
variable {K : Nat} {P : Program}
def fT (K : Nat) (P : Program) (f : FuncId) (args : List AV) (j : List Blk) (r : AV) (H1 : List Blk) : Prop :=
 ∀ (out : Nat -> Prop) (B : Nat -> Prop) (w : World) (π : List (Option PB)) (vs : List Value), Inv out B w π j -> RvL w (aJ out π j) π args vs ->
  Calls P f vs.toArray w fun e w' => ∃ u π', e = .returned u /\ EK K B w w' (aJ out π j) (aJ out π' H1) π π' /\ Inv out B w' π' H1 /\ Rv w' (aJ out π' H1) π' r u
theorem EF {w : World} {mu : Nat -> Prop} {π : List (Option PB)} : ∀ {vs : List AV} {u : Value}, Rv w mu π (gX vs) u -> ∃ l : List Value, RvL w mu π vs l /\ ∀ (w' : World) (mu' : Nat -> Prop) (π' : List (Option PB)) (us : List AV), RvL w' mu' π' us l -> Rv w' mu' π' (gX us) u
 | [], u, h => by
  obtain ⟨a, rfl, h⟩ := h
  have q : a.toList = [] := h
  refine ⟨[], rfl, fun w' mu' π' us j => ?_⟩
  cases us with
  | nil => exact ⟨a, rfl, q⟩
  | cons x us => obtain ⟨v, m, e, _⟩ := j; cases e
 | [v], u, h => by
  refine ⟨[u], ⟨u, [], rfl, h, rfl⟩, fun w' mu' π' us j => ?_⟩
  cases us with
  | nil => cases j
  | cons x us =>
   obtain ⟨C, m, e, h1, h2⟩ := j
   cases e
   cases us with
   | nil => exact h1
   | cons y us => obtain ⟨_, _, e, _⟩ := h2; cases e
 | v1 :: v2 :: vs, u, h => by
  obtain ⟨a, rfl, h⟩ := h
  refine ⟨a.toList, h, fun w' mu' π' us j => ?_⟩
  obtain ⟨x1, l1, e1, _, x2, l2, e2, _⟩ := h
  cases us with
  | nil => rw [e1] at j; cases j
  | cons D us =>
   cases us with
   | nil =>
    obtain ⟨z, E, e, _, h2⟩ := j
    rw [e1] at e; cases e; rw [e2] at h2; cases h2
   | cons I us => exact ⟨a, rfl, j⟩
def Ae (K : Nat) (P : Program) (rs : List ResultVar) (us : List AV) (H1 : List Blk) : X -> St -> Prop
 | .exit _, _ => False
 | _, st => ∃ vs, dI P st rs = some vs /\ Wk K ⟨vs, st.heap⟩ ⟨us, H1⟩
theorem Ae.ret {rs : List ResultVar} {us : List AV} {H1 : List Blk} {st : St} (vs : List AV) (k : Wk K ⟨vs, st.heap⟩ ⟨us, H1⟩) (h : dI P st rs = some vs := by kernel_rfl) : Ae K P rs us H1 .ret st := ⟨vs, h, k⟩
theorem Ae.normal {rs : List ResultVar} {us : List AV} {H1 : List Blk} {st : St} (vs : List AV) (k : Wk K ⟨vs, st.heap⟩ ⟨us, H1⟩) (h : dI P st rs = some vs := by kernel_rfl) : Ae K P rs us H1 .normal st := ⟨vs, h, k⟩
theorem fT.body (G : oV P) {f : FuncId} {fn : Func} (J : P.funcs[f]? = some fn) {c : Code} (hb : fn.body = some c) {args us : List AV} {q H1 : List Blk} {s : List AV} {rs : List ResultVar} (hs : args ++ o8 (fn.ntmps - args.length) = s) (z : fn.results.toList = rs)
  (h : CQ K P [.c c] (Ae K P rs us H1) .normal ⟨s, q⟩) : fT K P f args q (gX us) H1 := by
 intro out B w π vs M ha
 subst hs
 subst z
 refine calls_of_wp J hb ?_
 have hlen := RvL.length _ _ ha
 have N : Rep out B w π ⟨args ++ o8 (fn.ntmps - args.length), q⟩ { tmps := vs.toArray ++ Array.replicate (fn.ntmps - vs.toArray.size) undef, defers := [] } := by
  refine ⟨rfl, ?_, M⟩
  simp only [Array.toList_append, Array.toList_replicate, List.size_toArray, hlen]
  refine RvL.append _ _ _ _ ha ?_
  refine RvL.mE _ _ (by simp [o8]) fun i x y h1 h2 => ?_
  have := List.mem_of_getElem? h1
  simp [o8] at this
  rw [this.2]; trivial
 refine h out B w π _ _ N fun x st' a' w' π' C m O => ?_
 have fin : ∀ j, dI P st' fn.results.toList = some j -> Wk K ⟨j, st'.heap⟩ ⟨us, H1⟩ -> ∃ u, (results fn a'.tmps).run P w' = .ok u w' /\ ∃ E π2, (Ending.returned u) = .returned E /\ EK K B w w' (aJ out π q) (aJ out π2 H1) π π2 /\ Inv out B w' π2 H1 /\ Rv w' (aJ out π2 H1) π2 (gX us) E := by
  intro j T D
  obtain ⟨u, r1, r2⟩ := lf m T
  obtain ⟨l, l1, l2⟩ := EF r2
  obtain ⟨π2, I, U, Y⟩ := D out B w' π' { tmps := l.toArray, defers := [] } ⟨rfl, l1, m.inv⟩
  exact ⟨u, r1, u, π2, rfl, O.trans (EK.less U Y), I.inv, l2 _ _ _ _ I.slots⟩
 cases x with
 | normal => obtain ⟨j, h1, h2⟩ := C; exact ⟨m.defers, fin j h1 h2⟩
 | ret => obtain ⟨j, h1, h2⟩ := C; exact ⟨m.defers, fin j h1 h2⟩
 | exit id => exact C.elim
theorem gr.Bi {w : World} {mu : Nat -> Prop} {π : List (Option PB)} {p : PB} {x : Blk} (h : x.isLive = false) : gr w mu π p x := by
 cases x with
 | dead => trivial
 | own cs => cases h
 | fix cs => cases h
 | map es => cases h
 | iter m n seen => cases h
set_option maxHeartbeats 1000000
theorem vC : ∀ (ws : List (Nat × Blk)) (H : List Blk), (∀ q ∈ ws, q.1 < H.length) -> (aM H ws).length = H.length
 | [], H, _ => rfl
 | (j, b) :: ws, H, h => by
  have z := h (j, b) (by simp)
  have m : (upd H j b).length = H.length := by rw [dm (by omega), if_neg (by simp only at z; omega)]
  simp only [aM]
  rw [vC ws (upd H j b) (fun q C => by rw [m]; exact h q (by simp [C])), m]
theorem r9 : ∀ (ws : List (Nat × Blk)) (H : List Blk) (j : Nat), (∀ q ∈ ws, q.1 < H.length) -> (∀ b, (j, b) ∉ ws) -> (aM H ws)[j]? = H[j]?
 | [], H, _, _, _ => rfl
 | (i, b) :: ws, H, j, h, m => by
  have hi := h (i, b) (by simp)
  simp only at hi
  have z : (upd H i b).length = H.length := by rw [dm (by omega), if_neg (by omega)]
  simp only [aM]
  rw [r9 ws (upd H i b) j (fun q C => by rw [z]; exact h q (by simp [C])) (fun x hx => m x (by simp [hx])), fb (by omega), if_neg]
  rintro rfl
  exact m b (by simp)
theorem xl : ∀ (ws : List (Nat × Blk)) (H : List Blk) (j : Nat) (b : Blk), (∀ q ∈ ws, q.1 < H.length) -> (ws.map (·.1)).Nodup -> (j, b) ∈ ws -> (aM H ws)[j]? = some b
 | [], _, _, _, _, _, h => by simp at h
 | (i, x) :: ws, H, j, b, h, C, hm => by
  have hi := h (i, x) (by simp)
  simp only at hi
  have D : (upd H i x).length = H.length := by rw [dm (by omega), if_neg (by omega)]
  have z := List.nodup_cons.1 (by simpa using C : (i :: ws.map (·.1)).Nodup)
  simp only [aM]
  have m : ∀ q ∈ ws, q.1 < (upd H i x).length := fun q E => by rw [D]; exact h q (by simp [E])
  rcases List.mem_cons.1 hm with e | hm
  · obtain ⟨rfl, rfl⟩ := Prod.mk.inj e
    rw [r9 ws _ j m (fun y I => z.1 (List.mem_map.2 ⟨(j, y), I, rfl⟩)), fb (by omega), if_pos rfl]
  · exact xl ws _ j b m z.2 hm
theorem vt : ∀ (l : List (Nat × Bool)), oZ l = true -> (l.map (·.1)).Nodup
 | [], _ => List.nodup_nil
 | (b, t) :: l, h => by
  simp only [oZ, Bool.and_eq_true] at h
  obtain ⟨h1, h2⟩ := h
  have m : posOf l b 0 = none := by
   cases hb : posOf l b 0 with
   | none => rfl
   | some c => rw [hb] at h1; cases h1
  refine List.nodup_cons.2 ⟨fun hm => ?_, vt l h2⟩
  obtain ⟨q, z, he⟩ := List.mem_map.1 hm
  obtain ⟨j, C⟩ := List.getElem?_of_mem z
  exact px l b 0 m j q.2 (by rw [C]; exact congrArg some (Prod.ext he rfl))
def wQ (K : Nat) (keep : List (Nat × Bool)) (n m : Nat) : List Nat := (keep.take K).map (·.1) ++ List.range' n m
def vr (ρ : Nat -> Option Nat) : List Nat -> List Bool -> List Blk -> List (Nat × Blk)
 | j :: m, t :: q, x :: xs => (j, rfB ρ t x) :: vr ρ m q xs
 | _, _, _ => []
def uk : List (Nat × Bool) -> List (Nat × Blk)
 | [] => []
 | (b, _) :: l => (b, .dead) :: uk l
def BE (K : Nat) (keep : List (Nat × Bool)) (n m : Nat) (j : List Bool) (H1 : List Blk) : List (Nat × Blk) :=
 vr (fun k => (wQ K keep n m)[k]?) (wQ K keep n m) j H1 ++ uk (keep.drop K)
def vH : List Bool -> List Blk -> Prop
 | false :: j, x :: xs => vu (some x) /\ vH j xs
 | true :: j, _ :: xs => vH j xs
 | _, _ => True
theorem zh (ρ : Nat -> Option Nat) : ∀ (m : List Nat) (q : List Bool) (xs : List Blk), m.length = xs.length -> q.length = xs.length -> (vr ρ m q xs).map (·.1) = m
 | [], [], [], _, _ => rfl
 | j :: m, t :: q, x :: xs, h1, h2 => by simp only [vr, List.map_cons]; rw [zh ρ m q xs (by simpa using h1) (by simpa using h2)]
 | [], _ :: _, _, h1, h2 => by cases (List.eq_nil_of_length_eq_zero (by simpa using h1.symm)); simp at h2
 | _ :: _, [], _, h1, h2 => by cases (List.eq_nil_of_length_eq_zero (by simpa using h2.symm)); simp at h1
 | [], [], _ :: _, h1, _ => by simp at h1
 | _ :: _, _ :: _, [], h1, _ => by simp at h1
theorem Ak (ρ : Nat -> Option Nat) : ∀ (m : List Nat) (q : List Bool) (xs : List Blk) (j : Nat) (b : Blk), (j, b) ∈ vr ρ m q xs -> ∃ (k : Nat) (t : Bool) (x : Blk), m[k]? = some j /\ q[k]? = some t /\ xs[k]? = some x /\ b = rfB ρ t x
 | [], _, _, _, _, h => by simp [vr] at h
 | _ :: _, [], _, _, _, h => by simp [vr] at h
 | _ :: _, _ :: _, [], _, _, h => by simp [vr] at h
 | j' :: m, t :: q, x :: xs, j, b, h => by
  simp only [vr, List.mem_cons, Prod.mk.injEq] at h
  rcases h with ⟨rfl, rfl⟩ | h
  · exact ⟨0, t, x, rfl, rfl, rfl, rfl⟩
  · obtain ⟨k, z, C, h1, h2, D, E⟩ := Ak ρ m q xs j b h
    exact ⟨k + 1, z, C, by simpa using h1, by simpa using h2, by simpa using D, E⟩
theorem xk : ∀ l : List (Nat × Bool), (uk l).map (·.1) = l.map (·.1)
 | [] => rfl
 | (b, t) :: l => by simp only [uk, List.map_cons, xk l]
theorem xI : ∀ (l : List (Nat × Bool)) (j : Nat) (b : Blk), (j, b) ∈ uk l -> b = .dead
 | [], _, _, h => by simp [uk] at h
 | (i, t) :: l, j, b, h => by
  simp only [uk, List.mem_cons, Prod.mk.injEq] at h
  rcases h with ⟨_, rfl⟩ | h
  · rfl
  · exact xI l j b h
theorem uj : ∀ (j : List Bool) (xs : List Blk) (k : Nat) (x : Blk), vH j xs -> j[k]? = some false -> xs[k]? = some x -> vu (some x)
 | [], _, k, x, _, h, _ => by simp at h
 | _ :: _, [], k, x, _, _, h => by simp at h
 | false :: j, y :: xs, 0, x, hp, _, h => by simp at h; subst h; exact hp.1
 | false :: j, y :: xs, k + 1, x, hp, h1, h2 => uj j xs k x hp.2 (by simpa using h1) (by simpa using h2)
 | true :: j, y :: xs, 0, x, hp, h, _ => by simp at h
 | true :: j, y :: xs, k + 1, x, hp, h1, h2 => uj j xs k x hp (by simpa using h1) (by simpa using h2)
theorem xm {H H' : List Blk} {keep : List (Nat × Bool)} : ∀ (l : List (Nat × Bool)), (∀ q ∈ l, H'[q.1]? = H[q.1]?) -> rnH H' keep l = rnH H keep l
 | [], _ => rfl
 | (b, t) :: l, h => by
  simp only [rnH]
  rw [h (b, t) (by simp), xm l fun q j => h q (by simp [j])]
theorem qt {H H' : List Blk} : ∀ (l : List (Nat × Bool)), (∀ q ∈ l, H'[q.1]? = H[q.1]?) -> kh H l -> kh H' l
 | [], _, _ => trivial
 | (b, false) :: l, h, hp => ⟨by rw [h (b, false) (by simp)]; exact hp.1, qt l (fun q j => h q (by simp [j])) hp.2⟩
 | (b, true) :: l, h, hp => qt l (fun q j => h q (by simp [j])) hp
theorem wg {f : FuncId} {args a7 : List AV} {H H0 H1 : List Blk} {r v : AV} {ws : List (Nat × Blk)} {m : Nat} {rd : List Nat} (K : Nat) (keep : List (Nat × Bool)) (ts : List Bool) (c1 : fT K P f a7 H0 r H1)
  (c7 : kh H keep) (j6 : vH ts H1) (c8 : H1.length = K + m) (c9 : ts.length = H1.length)
  (hn : oZ keep = true := by kernel_rfl) (e7 : keep.all (fun q => Nat.blt q.1 H.length) = true := by kernel_rfl) (hK : Nat.ble K keep.length = true := by kernel_rfl)
  (e8 : rnL keep args = a7 := by kernel_rfl) (hH : rnH H keep keep = H0 := by kernel_rfl)
  (hv : rfA (fun k => (wQ K keep H.length m)[k]?) r = v := by kernel_rfl) (j7 : BE K keep H.length m ts H1 = ws := by kernel_rfl) (j8 : keep.map (·.1) = rd := by kernel_rfl) : gz P f args H (.loc v ws rd m) := by
 intro H' hlen j9 out B w π vs T hπ ha
 subst j8 hH e8
 have hK : K <= keep.length := lbT hK
 have Y : ∀ q ∈ keep, q.1 < H.length := fun q O => by have := List.all_eq_true.1 e7 q O; simpa [Nat.blt_eq] using this
 have c2 : ∀ q ∈ keep, H'[q.1]? = H[q.1]? := fun q O => j9 q.1 (List.mem_map.2 ⟨q, O, rfl⟩) (Y q O)
 rw [<- xm keep c2] at c1
 have b5 := qt keep c2 c7
 have c3 := vt keep hn
 have hl := T.len
 obtain ⟨π0, hπ0⟩ : ∃ π0 : List (Option PB), π0 = keep.map fun q => (π[q.1]?).getD none := ⟨_, rfl⟩
 have hπm : ∀ b c p, posOf keep b 0 = some c -> π[b]? = some (some p) -> π0[c]? = some (some p) := by
  intro b c p h1 h2
  obtain ⟨j, t, rfl, E⟩ := ud keep b 0 c h1
  rw [hπ0, List.getElem?_map, Nat.zero_add, E]
  simp [h2]
 have back : ∀ {j : Nat} {x : Blk} {p : PB}, (rnH H' keep keep)[j]? = some x -> x.isLive = true -> π0[j]? = some (some p) -> ∃ b t y, keep[j]? = some (b, t) /\ H'[b]? = some y /\ rfB (fun b => posOf keep b 0) t y = x /\ π[b]? = some (some p) := by
  intro j x p h1 h2 E
  obtain ⟨b, t, y, g1, C, D⟩ := yu keep j x h1 h2
  refine ⟨b, t, y, g1, C, D, ?_⟩
  rw [hπ0, List.getElem?_map, g1] at E
  simp only [Option.map_some, Option.some.injEq] at E
  cases hb : π[b]? with
  | none => rw [hb] at E; cases E
  | some q => rw [hb] at E; simp only [Option.getD_some] at E; rw [E]
 have a8 : ∀ {j b : Nat} {t : Bool}, keep[j]? = some (b, t) -> b ∈ keep.map (·.1) := fun h => List.mem_map.2 ⟨_, List.mem_of_getElem? h, rfl⟩
 obtain ⟨a0, N⟩ : ∃ o : Nat -> Prop, o = fun b => out b \/ ∃ (i : Nat) (x : Blk) (p : PB), H'[i]? = some x /\ x.hZ = true /\ i ∉ keep.map (·.1) /\ π[i]? = some (some p) /\ p.blk = b := ⟨_, rfl⟩
 obtain ⟨Q0, a9⟩ : ∃ Q : Nat -> Prop, Q = fun b => b < w.heap.size /\ ¬ ∃ (k : Nat) (x : Blk) (p : PB), (rnH H' keep keep)[k]? = some x /\ x.isLive = true /\ π0[k]? = some (some p) /\ p.blk = b := ⟨_, rfl⟩
 have b6 : ∀ b, aJ a0 π0 (rnH H' keep keep) b -> aJ out π H' b := by
  rintro b (ho | ⟨j, x, p, e1, e2, e3, e4⟩)
  · rw [N] at ho
    rcases ho with ho | ⟨i, x, p, g1, C, _, D, M⟩
    · exact .inl ho
    · exact .inr ⟨i, x, p, g1, C, D, M⟩
  · obtain ⟨b', t, y, g1, C, D, M⟩ := back e1 (Blk.bF e2) e3
    exact .inr ⟨b', y, p, C, oU (by rw [D]; exact e2), M, e4⟩
 have e9 : ∀ b, B b -> Q0 b := by
  intro b hb
  rw [a9]
  refine ⟨T.bound b hb, ?_⟩
  rintro ⟨k, x, p, e1, e2, e3, rfl⟩
  obtain ⟨b', t, y, g1, C, D, M⟩ := back e1 e2 e3
  exact (T.base b' y p C M (jt (by rw [D]; exact e2))).1 hb
 have g8 : Inv a0 Q0 w π0 (rnH H' keep keep) := by
  refine ⟨by rw [hπ0, List.length_map]; exact (rX keep).symm, fun b hb => by rw [a9] at hb; exact hb.1, ?_, ?_, ?_, ?_⟩
  · intro b hb
    rw [N] at hb
    rcases hb with hb | ⟨i, x, p, g1, C, D, M, rfl⟩
    · exact e9 b (T.out_lt b hb)
    · rw [a9]
      refine ⟨(T.base i x p g1 M (Blk.bF C)).2, ?_⟩
      rintro ⟨k, y, q, e1, e2, e3, e4⟩
      obtain ⟨b', t, z, k1, k2, k3, k4⟩ := back e1 e2 e3
      refine T.sep i b' x z p q ?_ g1 k2 M k4 C (jt (by rw [k3]; exact e2)) e4.symm
      rintro rfl
      exact D (a8 k1)
  · intro j x p e1 e2 e3
    refine ⟨fun O => ?_, ?_⟩
    · rw [a9] at O; exact O.2 ⟨j, x, p, e1, e3, e2, rfl⟩
    · obtain ⟨b, t, y, g1, C, D, M⟩ := back e1 e3 e2
      exact (T.base b y p C M (jt (by rw [D]; exact e3))).2
  · intro j x p e1 e2
    cases hx : x.isLive with
    | false => exact gr.Bi hx
    | true =>
     obtain ⟨b, t, y, g1, C, D, M⟩ := back e1 hx e2
     have k0 := T.ok b y p C M
     subst D
     exact AS b6 hπm (fun ht => by subst ht; have := qU keep b5 j b g1; rw [C] at this; exact this) k0
  · intro i j x y p q b7 e1 e2 e3 e4 e5 e6
    obtain ⟨b, t, z, g1, C, D, M⟩ := back e1 (Blk.bF e5) e3
    obtain ⟨b', t', z', k1, k2, k3, k4⟩ := back e2 e6 e4
    refine T.sep b b' z z' p q ?_ C k2 M k4 (oU (by rw [D]; exact e5)) (jt (by rw [k3]; exact e6))
    rintro rfl
    exact b7 (qK keep hn i j b t t' g1 k1)
 refine (c1 a0 Q0 w π0 vs g8 (rM b6 hπm args _ ha)).mono ?_
 rintro e w' ⟨u, π1, rfl, hE, U, hr⟩
 obtain ⟨I, a3⟩ : ∃ I, I = wQ K keep H.length m := ⟨_, rfl⟩
 have k6 : I.length = K + m := by rw [a3]; simp only [wQ, List.length_append, List.length_map, List.length_take, List.length_range']; omega
 have b8 : ∀ k, k < K -> ∃ t, keep[k]? = some (I[k]?.getD 0, t) /\ I[k]? = some (I[k]?.getD 0) := by
  intro k J
  have b9 : k < keep.length := by omega
  refine ⟨keep[k].2, ?_⟩
  have : I[k]? = some keep[k].1 := by
   rw [a3, wQ, List.getElem?_append_left (by simp; omega), List.getElem?_map, List.getElem?_take, if_pos J, geT b9]; rfl
  rw [this]
  simp [geT b9]
 have g0 : ∀ k, K <= k -> k < K + m -> I[k]? = some (H.length + (k - K)) := by
  intro k h1 h2
  rw [a3, wQ, List.getElem?_append_right (by simp; omega)]
  have : (List.map (fun x : Nat × Bool => x.1) (List.take K keep)).length = K := by simp; omega
  rw [this, List.getElem?_range' (by omega)]
  simp
 have c4 : I.Nodup := by
  rw [a3, wQ, List.nodup_append]
  refine ⟨?_, List.nodup_range', ?_⟩
  · rw [List.map_take]; exact List.Sublist.nodup (List.take_sublist _ _) c3
  · rintro a g6 b hb rfl
    obtain ⟨q, O, rfl⟩ := List.mem_map.1 g6
    have h1 := Y q (List.mem_of_mem_take O)
    have := (List.mem_range'_1.1 hb).1
    omega
 have g7 : ∀ {i j c : Nat}, I[i]? = some c -> I[j]? = some c -> i = j := by
  intro i j c h1 h2
  have hi := aT h1
  have hj := aT h2
  rw [geT hi] at h1
  rw [geT hj] at h2
  exact (List.getElem_inj c4).1 (by rw [Option.some.inj h1, Option.some.inj h2])
 have a4 : (vr (fun k => I[k]?) I ts H1).map (·.1) = I := zh _ _ _ _ (by rw [k6, c8]) c9
 rw [<- a3] at hv
 have c5 : ws = vr (fun k => I[k]?) I ts H1 ++ uk (keep.drop K) := by rw [<- j7, BE, <- a3]
 have b0 : ws.map (·.1) = I ++ (keep.drop K).map (·.1) := by rw [c5, List.map_append, a4, xk]
 have g9 : (ws.map (·.1)).Nodup := by
  rw [b0, List.nodup_append]
  refine ⟨c4, ?_, ?_⟩
  · rw [List.map_drop]; exact List.Sublist.nodup (List.drop_sublist _ _) c3
  · rintro a g6 b hb rfl
    obtain ⟨k, J⟩ := List.getElem?_of_mem g6
    obtain ⟨q, O, rfl⟩ := List.mem_map.1 hb
    obtain ⟨i, hi⟩ := List.getElem?_of_mem O
    rw [List.getElem?_drop] at hi
    by_cases a5 : k < K
    · obtain ⟨t, g1, C⟩ := b8 k a5
      rw [J] at g1
      have := qK keep hn k (K + i) _ t q.2 g1 (by rw [hi]; rfl)
      omega
    · have h7 := aT J
      rw [g0 k (by omega) (by omega)] at J
      have := Y q (List.mem_of_getElem? hi)
      have := Option.some.inj J
      omega
 have a2 : ∀ q ∈ ws, q.1 < H'.length := by
  intro q O
  have : q.1 ∈ ws.map (·.1) := List.mem_map.2 ⟨q, O, rfl⟩
  rw [b0] at this
  rcases List.mem_append.1 this with h | h
  · obtain ⟨k, J⟩ := List.getElem?_of_mem h
    by_cases a5 : k < K
    · obtain ⟨t, g1, C⟩ := b8 k a5
      rw [J] at g1
      have := Y _ (List.mem_of_getElem? g1)
      simp only [Option.getD_some] at this
      omega
    · have h7 := aT J
      rw [g0 k (by omega) (by omega)] at J
      have := Option.some.inj J
      omega
  · obtain ⟨x, hx, e⟩ := List.mem_map.1 h
    have := Y x (List.mem_of_mem_drop hx)
    omega
 obtain ⟨H2, a6⟩ : ∃ H2, H2 = aM H' ws := ⟨_, rfl⟩
 have h8 : H2.length = H'.length := by rw [a6]; exact vC ws H' a2
 have h9 : ∀ {k j : Nat}, I[k]? = some j -> j < π.length := by
  intro k j J
  have : j ∈ ws.map (·.1) := by rw [b0]; exact List.mem_append.2 (.inl (List.mem_of_getElem? J))
  obtain ⟨q, O, rfl⟩ := List.mem_map.1 this
  have := a2 q O
  omega
 have hex : ∀ j : Nat, ∃ o : Option PB, (∀ k : Nat, I[k]? = some j -> o = (π1[k]?).getD none) /\ (j ∉ I -> o = (π[j]?).getD none) := by
  intro j
  by_cases hj : j ∈ I
  · obtain ⟨k, J⟩ := List.getElem?_of_mem hj
    exact ⟨(π1[k]?).getD none, fun k' b9 => by rw [g7 J b9], fun h => (h hj).elim⟩
  · exact ⟨(π[j]?).getD none, fun k J => (hj (List.mem_of_getElem? J)).elim, fun _ => rfl⟩
 obtain ⟨g, hg⟩ := Classical.axiomOfChoice hex
 obtain ⟨π2, hπ2⟩ : ∃ π2 : List (Option PB), π2 = (List.range π.length).map g := ⟨_, rfl⟩
 have ol : π2.length = π.length := by rw [hπ2]; simp
 have oi : ∀ {k j : Nat}, I[k]? = some j -> π2[j]? = some ((π1[k]?).getD none) := by
  intro k j J
  rw [hπ2, List.getElem?_map, List.getElem?_range (h9 J), Option.map_some, (hg j).1 k J]
 have oo : ∀ {j : Nat}, j ∉ I -> π2[j]? = π[j]? := by
  intro j hj
  by_cases hl : j < π.length
  · rw [hπ2, List.getElem?_map, List.getElem?_range hl, Option.map_some, (hg j).2 hj, geT hl, Option.getD_some]
  · rw [List.getElem?_eq_none (by omega), List.getElem?_eq_none (by omega)]
 have a1 : ∀ (b c : Nat) (q : PB), I[b]? = some c -> π1[b]? = some (some q) -> π2[c]? = some (some q) := by
  intro b c q hb O
  rw [oi hb, O]; rfl
 have j0 : ∀ (i : Nat) (p : PB), π[i]? = some (some p) -> π2[i]? = some (some p) := by
  intro i p h
  by_cases hi : i ∈ I
  · obtain ⟨k, J⟩ := List.getElem?_of_mem hi
    by_cases a5 : k < K
    · obtain ⟨t, g1, C⟩ := b8 k a5
      rw [J] at g1
      simp only [Option.getD_some] at g1
      have : π0[k]? = some (some p) := by rw [hπ0, List.getElem?_map, g1]; simp [h]
      exact a1 k i p J (hE.pin k a5 p this)
    · have h7 := aT J
      rw [g0 k (by omega) (by omega)] at J
      obtain rfl := Option.some.inj J
      exact (hπ _ (by omega) (by omega) p h).elim
  · rw [oo hi]; exact h
 have key : ∀ (j : Nat) (x : Blk) (p : PB), H2[j]? = some x -> x.isLive = true -> π2[j]? = some (some p) ->
   (j ∉ keep.map (·.1) /\ H'[j]? = some x /\ π[j]? = some (some p)) \/ ∃ (k : Nat) (t : Bool) (y : Blk), I[k]? = some j /\ ts[k]? = some t /\ H1[k]? = some y /\ x = rfB (fun k => I[k]?) t y /\ π1[k]? = some (some p) := by
  intro j x p h1 h2 E
  by_cases hj : ∃ b, (j, b) ∈ ws
  · obtain ⟨b, hb⟩ := hj
    have e := xl ws H' j b a2 g9 hb
    rw [<- a6, h1] at e
    cases e
    rw [c5] at hb
    rcases List.mem_append.1 hb with hb | hb
    · obtain ⟨k, t, y, g1, C, D, M⟩ := Ak _ _ _ _ _ _ hb
      refine .inr ⟨k, t, y, g1, C, D, M, ?_⟩
      rw [oi g1] at E
      cases J : π1[k]? with
      | none => rw [J] at E; cases E
      | some q => rw [J] at E; simpa using E
    · have := xI _ _ _ hb
      subst this
      cases h2
  · have hj : ∀ b, (j, b) ∉ ws := fun b hb => hj ⟨b, hb⟩
    rw [a6, r9 ws H' j a2 hj] at h1
    have b1 : j ∉ ws.map (·.1) := fun hm => by
     obtain ⟨q, O, rfl⟩ := List.mem_map.1 hm
     exact hj q.2 O
    rw [b0] at b1
    have j1 : j ∉ I := fun h => b1 (List.mem_append.2 (.inl h))
    have k7 : j ∉ (keep.drop K).map (·.1) := fun h => b1 (List.mem_append.2 (.inr h))
    refine .inl ⟨fun hm => ?_, h1, ?_⟩
    · obtain ⟨q, O, rfl⟩ := List.mem_map.1 hm
      obtain ⟨i, hi⟩ := List.getElem?_of_mem O
      by_cases k8 : i < K
      · obtain ⟨t, g1, C⟩ := b8 i k8
        rw [hi] at g1
        have e : q.1 = I[i]?.getD 0 := by rw [Option.some.inj g1]
        rw [<- e] at C
        exact j1 (List.mem_of_getElem? C)
      · refine k7 (List.mem_map.2 ⟨q, ?_, rfl⟩)
        refine List.mem_of_getElem? (i := i - K) ?_
        rw [List.getElem?_drop, show K + (i - K) = i by omega]; exact hi
    · rw [oo j1] at E; exact E
 have b3 : ∀ b, aJ out π2 H2 b -> aJ a0 π1 H1 b := by
  rintro b (h | ⟨i, x, p, h1, h2, E, h4⟩)
  · exact .inl (by rw [N]; exact .inl h)
  · rcases key i x p h1 (Blk.bF h2) E with ⟨g1, C, D⟩ | ⟨k, t, y, g1, C, D, M, g5⟩
    · exact .inl (by rw [N]; exact .inr ⟨i, x, p, C, h2, g1, D, h4⟩)
    · exact .inr ⟨k, y, p, D, oU (by rw [<- M]; exact h2), g5, h4⟩
 have c6 : Ext B w w' (aJ out π H') (aJ out π2 H2) π π2 := by
  refine ⟨fun b hb => hE.low b (e9 b hb), hE.size, fun b hb k9 => ?_, j0, hE.os, hE.tape, hE.output, hE.drawn⟩
  obtain ⟨k1, k2⟩ := hE.keep b hb (fun h => k9 (b6 b h))
  exact ⟨k1, fun h => k2 (b3 b h)⟩
 have b4 : ∀ {k : Nat} {y : Blk} {p : PB}, H1[k]? = some y -> π1[k]? = some (some p) -> y.isLive = true -> w.heap.size <= p.blk \/ ∃ (b : Nat) (z : Blk) (q : PB), b ∈ keep.map (·.1) /\ H'[b]? = some z /\ z.isLive = true /\ π[b]? = some (some q) /\ q.blk = p.blk := by
  intro k y p h1 h2 E
  have c0 := (U.base k y p h1 h2 E).1
  rw [a9] at c0
  by_cases e7 : p.blk < w.heap.size
  · right
    have c0 : ∃ (k : Nat) (x : Blk) (q : PB), (rnH H' keep keep)[k]? = some x /\ x.isLive = true /\ π0[k]? = some (some q) /\ q.blk = p.blk := Classical.byContradiction fun hc => c0 ⟨e7, hc⟩
    obtain ⟨k', x, q, e1, e2, e3, e4⟩ := c0
    obtain ⟨b, t, z, g1, C, D, M⟩ := back e1 e2 e3
    exact ⟨b, z, q, a8 g1, C, jt (by rw [D]; exact e2), M, e4⟩
  · exact .inl (by omega)
 have same : ∀ {i : Nat} {x : Blk} {p : PB}, i ∉ keep.map (·.1) -> H'[i]? = some x -> π[i]? = some (some p) -> x.isLive = true -> w'.heap[p.blk]? = w.heap[p.blk]? := by
  intro i x p h0 h1 h2 E
  by_cases hm : x.hZ = true
  · exact hE.low _ (g8.out_lt _ (by rw [N]; exact .inr ⟨i, x, p, h1, hm, h0, h2, rfl⟩))
  · refine (hE.keep p.blk (T.base i x p h1 h2 E).2 (fun h => ?_)).1
    rcases b6 _ h with ho | ⟨j, y, q, g1, C, D, M⟩
    · exact (T.base i x p h1 h2 E).1 (T.out_lt _ ho)
    · by_cases j2 : j = i
      · subst j2; rw [h1] at g1; cases g1; exact hm C
      · exact T.sep j i y x q p j2 g1 h1 D h2 C E M
 refine ⟨u, π2, rfl, ?_, ?_, ?_, ?_⟩
 · rw [<- a6]; exact c6
 · rw [<- a6]
   refine ⟨by rw [ol, h8, hl], fun b hb => Nat.lt_of_lt_of_le (T.bound b hb) hE.size, T.out_lt, ?_, ?_, ?_⟩
   · intro i x p h1 h2 E
     rcases key i x p h1 E h2 with ⟨g1, C, D⟩ | ⟨k, t, y, g1, C, D, M, g5⟩
     · have := T.base i x p C D E
       exact ⟨this.1, Nat.lt_of_lt_of_le this.2 hE.size⟩
     · have j3 : y.isLive = true := jt (by rw [<- M]; exact E)
       refine ⟨fun hb => ?_, (U.base k y p D g5 j3).2⟩
       exact (U.base k y p D g5 j3).1 (e9 _ hb)
   · intro i x p h1 h2
     cases hx : x.isLive with
     | false => exact gr.Bi hx
     | true =>
      rcases key i x p h1 hx h2 with ⟨g1, C, D⟩ | ⟨k, t, y, g1, C, D, M, g5⟩
      · exact gr.ext c6 (fun l0 => same g1 C D l0) (T.ok i x p C D)
      · subst M
        exact AS b3 a1 (fun ht => by subst ht; exact uj ts H1 k y j6 C D) (U.ok k y p D g5)
   · intro i j x y p q b7 h1 h2 E h4 h5 h6
     rcases key i x p h1 (Blk.bF h5) E with ⟨g1, C, D⟩ | ⟨k, t, z, g1, C, D, M, g5⟩
     · rcases key j y q h2 h6 h4 with ⟨k1, k2, k3⟩ | ⟨k', t', z', k1, k2, k3, k4, k5⟩
       · exact T.sep i j x y p q b7 C k2 D k3 h5 h6
       · have l1 : z'.isLive = true := jt (by rw [<- k4]; exact h6)
         intro e
         refine (U.base k' z' q k3 k5 l1).1 (e ▸ U.out_lt _ ?_)
         rw [N]; exact .inr ⟨i, x, p, C, h5, g1, D, rfl⟩
     · have a4 : z.hZ = true := oU (by rw [<- M]; exact h5)
       rcases key j y q h2 h6 h4 with ⟨k1, k2, k3⟩ | ⟨k', t', z', k1, k2, k3, k4, k5⟩
       · intro e
         have l3 := (T.base j y q k2 k3 h6).2
         rcases b4 D g5 (Blk.bF a4) with l4 | ⟨b, z2, q2, f1, f2, f3, f4, f5⟩
         · omega
         · have l5 : b ≠ j := fun e => k1 (e ▸ f1)
           by_cases j4 : aJ a0 π0 (rnH H' keep keep) p.blk
           · rcases j4 with ho | ⟨l6, x2, p2, e1, e2, e3, e4⟩
             · exact (U.base k z p D g5 (Blk.bF a4)).1 (U.out_lt _ ho)
             · obtain ⟨b', t2, y2, m1, m2, m3, m4⟩ := back e1 (Blk.bF e2) e3
               have j5 : b' ≠ j := fun e => k1 (e ▸ a8 m1)
               exact T.sep b' j y2 y p2 q j5 m2 k2 m4 k3 (oU (by rw [m3]; exact e2)) h6 (by rw [e4, e])
           · exact (hE.keep p.blk (by omega) j4).2 (.inr ⟨k, z, p, D, a4, g5, rfl⟩)
       · have l2 : k ≠ k' := by
          rintro rfl
          rw [g1] at k1
          exact b7 (Option.some.inj k1)
         exact U.sep k k' z z' p q l2 D k3 g5 k5 a4 (jt (by rw [<- k4]; exact h6))
 · rw [<- a6, <- hv]
   exact yQ b3 a1 r u hr
 · intro j hj
   have b1 : j ∉ I := fun hm => by
    have : j ∈ ws.map (·.1) := by rw [b0]; exact List.mem_append.2 (.inl hm)
    obtain ⟨q, O, rfl⟩ := List.mem_map.1 this
    exact hj q.2 O
   exact oo b1
end Go.Eng


set_option linter.unusedVariables false
namespace Go.Eng
open Go Go.RowKit
variable [Dr]
noncomputable def sG (P : Program) (call : dz) (ops l : List Oper) (s : List AV) (h : List Blk) : St := match ga P call ops l ⟨s, h⟩ with | some st => st | none => ⟨s, h⟩
noncomputable def zq (P : Program) (call : dz) (ops l : List Oper) (s : List AV) (h : List Blk) : Bool := match ga P call ops l ⟨s, h⟩ with | some _ => true | none => false
theorem zd {P : Program} {call : dz} {ops l : List Oper} {s : List AV} {h : List Blk} (e : zq P call ops l s h = true) : ga P call ops l ⟨s, h⟩ = some (sG P call ops l s h) := by
 unfold zq at e
 unfold sG
 split at e
 · rename_i st j; rw [j]
 · cases e
section
variable {P : Program} {call : dz} {ops l : List Oper} {s : List AV} {h : List Blk} {K : List AV -> List Blk -> Prop} {KT : List AV -> List Blk -> List Ent -> Prop}
theorem EVO.mu (n : Nat) (j : EVO P call ops (l.drop n) (sG P call ops (l.take n) s h).slots (sG P call ops (l.take n) s h).heap K) (e : zq P call ops (l.take n) s h = true := by kernel_rfl) : EVO P call ops l s h K := by
 have := EVO.many (l1 := l.take n) (l2 := l.drop n) (s1 := (sG P call ops (l.take n) s h).slots) (h1 := (sG P call ops (l.take n) s h).heap) (by rw [zd e]) j
 rwa [List.take_append_drop] at this
noncomputable def Cq (P : Program) (call : dz) (ops l : List Oper) (s : List AV) (h : List Blk) : St := match fq P call ops l ⟨s, h⟩ with | some (st, _) => st | none => ⟨s, h⟩
noncomputable def Gn (P : Program) (call : dz) (ops l : List Oper) (s : List AV) (h : List Blk) : Bool := match fq P call ops l ⟨s, h⟩ with | some _ => true | none => false
theorem EVT.mu (n : Nat) (m : EVT P call ops (l.drop n) (Cq P call ops (l.take n) s h).slots (Cq P call ops (l.take n) s h).heap (fun q z es => KT q z (EZ P call ops (l.take n) s h ++ es))) (e : Gn P call ops (l.take n) s h = true := by kernel_rfl) : EVT P call ops l s h KT := by
 have := EVT.many (l1 := l.take n) (l2 := l.drop n) (s1 := (Cq P call ops (l.take n) s h).slots) (h1 := (Cq P call ops (l.take n) s h).heap) (by
  unfold Gn at e
  unfold Cq
  split at e
  · rename_i st j; rw [j]
  · cases e) m
 rwa [List.take_append_drop] at this
end
section
variable {P : Program} {K : Nat} {k : List Fr} {F : X -> St -> Prop} {d : Code} {i : Nat} {l : List Oper} {s : List AV} {h : List Blk}
theorem CQ.ru (G : oV P) (j : CQ K P k F .normal ⟨(sG P (cZ []) l l s h).slots, (sG P (cZ []) l l s h).heap⟩) (e : zq P (cZ []) l l s h = true := by kernel_rfl) : CQ K P (.c (.region i l.toArray false) :: k) F .normal ⟨s, h⟩ :=
 CQ.region G bz ⟨_, zd e, j⟩
noncomputable def AQ (P : Program) (l : List Oper) (s : List AV) (h : List Blk) (keep : List Nat) : Option St := match ga P (cZ []) l l ⟨s, h⟩ with | some st => some ⟨oN keep st.slots 0, st.heap⟩ | none => none
theorem CQ.rn (G : oV P) (keep : List Nat) (m : List AV) (q : List Blk) (z : CQ K P (.c d :: k) F .normal ⟨m, q⟩) (e : AQ P l s h keep = some ⟨m, q⟩ := by kernel_rfl) : CQ K P (.c (.region i l.toArray false) :: .c d :: k) F .normal ⟨s, h⟩ := by
 unfold AQ at e
 split at e
 · rename_i st j
   obtain ⟨s1, h1⟩ := st
   exact CQ.region G bz ⟨_, j, CQ.wk ((Wk.mask keep).to (Option.some.inj e)) z⟩
 · cases e
theorem CQ.g1 (G : oV P) {f : FuncId} {args : List AV} {r : tk} (c : gz P f args h r) (he : EVO P (cZ [{ f := f, args := args, H := h, r := r : CE }]) l l s h (fun j m => CQ K P k F .normal ⟨j, m⟩)) : CQ K P (.c (.region i l.toArray false) :: k) F .normal ⟨s, h⟩ := CQ.region G (vn c) he
theorem CQ.t1 (G : oV P) {f : FuncId} {args : List AV} {r : tk} (c : gz P f args h r) (he : EVT P (cZ [{ f := f, args := args, H := h, r := r : CE }]) l l s h (fun j m es => uc l es = true /\ CQ K P k F .normal ⟨j, m⟩)) : CQ K P (.c (.region i l.toArray true) :: k) F .normal ⟨s, h⟩ := CQ.dM G (vn c) he
end
theorem nt {P : Program} {f : FuncId} {args : List AV} {H : List Blk} {r : tk} {L : List CE} (c : gz P f args H r) (cs : fP P (cZ L)) : fP P (cZ ({ f := f, args := args, H := H, r := r : CE } :: L)) := fun g a H' j e => by
 simp only [cZ] at e
 split at e
 · rename_i m
   cases e
   obtain ⟨rfl, rfl, rfl⟩ := m
   exact c
 · exact cs g a H' j e
theorem gg {P : Program} {f : FuncId} {args j : List AV} {H O H1 : List Blk} {r : AV} (K m : Nat) (keep : List (Nat × Bool)) (J : List Bool) (I : fT K P f j O r H1)
  (z : kh H keep) (M : vH J H1) (C : H1.length = K + m) (D : J.length = H1.length)
  (E : rnL keep args = j) (T : rnH H keep keep = O)
  (U : oZ keep = true := by kernel_rfl) (N : keep.all (fun q => Nat.blt q.1 H.length) = true := by kernel_rfl) (Y : Nat.ble K keep.length = true := by kernel_rfl) :
  gz P f args H (.loc (rfA (fun k => (wQ K keep H.length m)[k]?) r) (BE K keep H.length m J H1) (keep.map (·.1)) m) :=
 wg K keep J I z M C D U N Y E T rfl rfl rfl
theorem pKo {H : List Blk} {b : Nat} {l : List (Nat × Bool)} {α : Type} (c : α -> List AV) (hc : ∀ x, ct (c x) = []) (e : List α) (rest : kh H l) (hb : H[b]? = some (.own (e.flatMap c)) := by kernel_rfl) : kh H ((b, false) :: l) :=
 ⟨by rw [hb]; exact bm hc e, rest⟩
def He : Option Blk -> List Nat
 | some (.own cs) => ct cs
 | some (.fix cs) => ct cs
 | some (.map es) => rT es
 | some (.iter ..) => [0]
 | _ => []
theorem pKc {H : List Blk} {b : Nat} {l : List (Nat × Bool)} (rest : kh H l) (hb : He H[b]? = [] := by kernel_rfl) : kh H ((b, false) :: l) := by
 refine ⟨?_, rest⟩
 generalize H[b]? = o at *
 cases o with
 | none => trivial
 | some x => cases x <;> first | exact hb | trivial | (simp [He] at hb; done)
theorem pKt {H : List Blk} {b : Nat} {l : List (Nat × Bool)} (rest : kh H l) : kh H ((b, true) :: l) := rest
theorem pK0 {H : List Blk} : kh H [] := trivial
def slH (b e : Bool) (j hi : Nat) (f : Nat -> Nat -> AV) : Option bs := bs.ofP (match (match b with | true => some (j, hi) | false => none), e with | some (l, h), true => some (f l h) | _, _ => none)
theorem FA {b : Bool} {j hi : Nat} {f : Nat -> Nat -> AV} {v : AV} (h : b = true) (m : f j hi = v) : slH b true j hi f = some (.pure v) := by subst h; subst m; rfl
theorem Wk.cut (b : Nat) {K : Nat} {cs : List AV} {s : List AV} {h : List Blk} (m : Nat) (hb : h[b]? = some (.own cs)) : Wk K ⟨s, h⟩ ⟨s, h.set b (.own (cs.take m))⟩ := fun out B w π a N => by
 have D := N.inv
 have J := aT hb
 have g : ∀ {k : Nat} {x : Blk}, (h.set b (.own (cs.take m)))[k]? = some x -> (k = b /\ x = .own (cs.take m)) \/ (k ≠ b /\ h[k]? = some x) := by
  intro k x z
  by_cases j : k = b
  · subst j
    rw [List.getElem?_set_self J] at z
    exact .inl ⟨rfl, (Option.some.inj z).symm⟩
  · rw [List.getElem?_set_ne (fun e => j e.symm)] at z
    exact .inr ⟨j, z⟩
 have old : ∀ {k : Nat} {x : Blk}, (h.set b (.own (cs.take m)))[k]? = some x -> ∃ y, h[k]? = some y /\ y.isLive = x.isLive /\ y.hZ = x.hZ := by
  intro k x z
  rcases g z with ⟨rfl, rfl⟩ | ⟨_, z⟩
  · exact ⟨_, hb, rfl, rfl⟩
  · exact ⟨x, z, rfl, rfl⟩
 have E : aJ out π (h.set b (.own (cs.take m))) = aJ out π h := by
  funext c
  apply propext
  constructor
  · rintro (hb | ⟨k, x, p, h1, h2, C, I⟩)
    · exact .inl hb
    · obtain ⟨y, M, _, Y⟩ := old h1
      exact .inr ⟨k, y, p, M, by rw [Y]; exact h2, C, I⟩
  · rintro (O | ⟨k, x, p, h1, h2, C, I⟩)
    · exact .inl O
    · by_cases j : k = b
      · subst j
        exact .inr ⟨k, .own (cs.take m), p, List.getElem?_set_self J, rfl, C, I⟩
      · exact .inr ⟨k, x, p, by rw [List.getElem?_set_ne (fun e => j e.symm)]; exact h1, h2, C, I⟩
 refine ⟨π, ⟨N.defers, ?_, ?_⟩, fun b hb => ?_, oR.refl π⟩
 · simp only [E]; exact N.slots
 · refine ⟨by simpa using D.len, D.bound, D.out_lt, ?_, ?_, ?_⟩
   · intro k x p h1 h2 C
     obtain ⟨y, M, T, _⟩ := old h1
     exact D.base k y p M h2 (by rw [T]; exact C)
   · intro k x p h1 h2
     simp only [E]
     rcases g h1 with ⟨rfl, rfl⟩ | ⟨_, z⟩
     · obtain ⟨o1, o2⟩ := D.ok k _ p hb h2
       exact ⟨o1, RvC.take m cs _ _ o2⟩
     · exact D.ok k x p z h2
   · intro k l x y p q U h1 h2 C I h5 h6
     obtain ⟨x', x1, _, x3⟩ := old h1
     obtain ⟨y', M, T, _⟩ := old h2
     exact D.sep k l x' y' p q U x1 M C I (by rw [x3]; exact h5) (by rw [T]; exact h6)
 · rw [E] at hb; exact hb
theorem Wk.H8 (i b : Nat) {K : Nat} {α : Type} {c : α -> List AV} {es : Nat} (hc : ∀ x, (c x).length = es) (l : List α) (k : Nat) {s : List AV} {h : List Blk} (j : k <= l.length) (hs : tA s i = .hs b 0 k es) (hb : h[b]? = some (.own (l.flatMap c))) :
  Wk K ⟨s, h⟩ ⟨s.set i (.hs b 0 (l.take k).length es), h.set b (.own ((l.take k).flatMap c))⟩ :=
 ((Wk.cut b (k * es) hb).to (by rw [qL hc])).trans (Wk.iO i (b := b) (len := k) (es := es) (l.take k).length hs (by rw [List.length_take]; omega))
theorem SnC.take {H : List Blk} {ok : Nat -> Bool} {A j : List AV} (n : Nat) (h : SnC H ok A j) : SnC H ok A (j.take n) := fun w mu mu' π b o m hm q => RvC.take n _ _ _ (h w mu mu' π b o m hm q)
theorem Sn.hsk {H : List Blk} {ok : Nat -> Bool} {b es : Nat} {α : Type} {c : α -> List AV} {l : List α} {k : Nat} (hc : ∀ x, (c x).length = es) (hp : ∀ x, ct (c x) = []) (m : k <= l.length) (j : ok b = true)
  (hb : H[b]? = some (.own (l.flatMap c)) \/ H[b]? = some (.fix (l.flatMap c))) : Sn H ok (.hs b 0 k es) (slT c (l.take k)) := by
 have h := Sn.hs (len := k) (es := es) j hb (SnC.take (k * es) (SnC.pure (bm hp l))) (fun h => by subst h; simp)
 unfold slT
 rw [<- qL hc, List.length_take, Nat.min_eq_left m]
 exact h
attribute [irreducible] sG zq AQ Cq Gn
end Go.Eng


set_option linter.unusedVariables false
namespace Go.Eng
open Go Go.RowKit
variable [Dr]
section
variable {P : Program} {call : dz} {ops rest : List Oper} {o : Oper} {s : List AV} {h : List Blk} {K : List AV -> List Blk -> Prop} {KT : List AV -> List Blk -> List Ent -> Prop} {v : AV} {ws : List (Nat × Blk)} {f : FuncId} {args : List AV} {rd : List Nat} {n : Nat}
theorem EVO.ca (hc : call f args h = some (.loc v ws rd n)) (j : EVO P call ops rest (fS s o.dst v) (aM (h ++ gN n) ws) K) (hw : cS ops o s = some true := by kernel_rfl) (he : evalOp P (evA s) h h.length o = some (.call f args) := by kernel_rfl) : EVO P call ops (o :: rest) s h K := EVO.cal hw he hc j
theorem EVT.ca (hc : call f args h = some (.loc v ws rd n)) (m : EVT P call ops rest (fS s o.dst v) (aM (h ++ gN n) ws) (fun q z es => KT q z (DO o h v ws rd n :: es))) (hw : cS ops o s = some true := by kernel_rfl) (he : evalOp P (evA s) h h.length o = some (.call f args) := by kernel_rfl) (j : me h.length (DO o h v ws rd n) = true := by kernel_rfl) : EVT P call ops (o :: rest) s h KT := EVT.cal hw he hc j m
end
def nz (P : Program) (h : List Blk) (F : dz) : Prop := fP P F
section
variable {P : Program} {h H : List Blk} {f : FuncId} {args : List AV} {r : tk} {L : List CE}
theorem ca1 (c : gz P f args h r) (cs : nz P h (cZ L)) : nz P h (cZ ({ f := f, args := args, H := h, r := r : CE } :: L)) := nt c cs
theorem ca2 (H : List Blk) (c : gz P f args H r) (cs : nz P h (cZ L)) : nz P h (cZ ({ f := f, args := args, H := H, r := r : CE } :: L)) := nt c cs
theorem ca3 (c : gz P f args h r) : nz P h (cZ [{ f := f, args := args, H := h, r := r : CE }]) := nt c bz
theorem ca4 (H : List Blk) (c : gz P f args H r) : nz P h (cZ [{ f := f, args := args, H := H, r := r : CE }]) := nt c bz
variable {K : Nat} {k : List Fr} {F : X -> St -> Prop} {i : Nat} {l : List Oper} {s : List AV}
theorem CQ.gn (G : oV P) {L : List CE} (c : nz P h (cZ L)) (he : EVO P (cZ L) l l s h (fun j m => CQ K P k F .normal ⟨j, m⟩)) : CQ K P (.c (.region i l.toArray false) :: k) F .normal ⟨s, h⟩ := CQ.region G c he
theorem CQ.tn (G : oV P) {L : List CE} (c : nz P h (cZ L)) (he : EVT P (cZ L) l l s h (fun j m es => uc l es = true /\ CQ K P k F .normal ⟨j, m⟩)) : CQ K P (.c (.region i l.toArray true) :: k) F .normal ⟨s, h⟩ := CQ.dM G c he
theorem ok0 {r : AV} (j : aN P f args r) (hp : ct args = [] := by kernel_rfl) : gz P f args H (.loc r [] [] 0) := cY (l := []) (SnL.pure hp) j
theorem cf0 {e : CE} (j : H = e.H := by kernel_rfl) : cZ (e :: L) e.f e.args H = some e.r := Cs j
theorem cfF {e : CE} (m : cZ L f args H = some r) (j : Nat.beq f e.f = false := by kernel_rfl) : cZ (e :: L) f args H = some r := uI (fun h _ => absurd h (fun x => by rw [show Nat.beq f e.f = true from by rw [x]; exact Nat.beq_refl _] at j; cases j)) m
theorem cfA {e : CE} (j : args = e.args -> r = e.r) (m : cZ L f args H = some r) : cZ (e :: L) f args H = some r := uI (fun _ h => j h) m
end
theorem sv {α : Type} {p q : Option α} {a b : α} (hp : p = some a) (j : q = some b) (e : p = q) : a = b := Option.some.inj (hp.symm.trans (e.trans j))
section
variable {P : Program} {K : Nat} {k : List Fr} {F : X -> St -> Prop} {d : Code} {i : Nat} {l : List Oper} {s : List AV} {h : List Blk}
theorem CQ.n2 (m : Nat) (q : List (Nat × AV)) (j : List Blk) (z : CQ K P (.c d :: k) F .normal ⟨mkS m 0 q, j⟩) (e : oN (q.map (·.1)) s 0 = mkS m 0 q := by kernel_rfl) (e2 : h = j := by kernel_rfl) : CQ K P (.c d :: k) F .normal ⟨s, h⟩ := CQ.norm _ e e2 z
theorem CQ.r2 (G : oV P) (m : Nat) (q : List (Nat × AV)) (j : List Blk) (z : CQ K P (.c d :: k) F .normal ⟨mkS m 0 q, j⟩) (e : AQ P l s h (q.map (·.1)) = some ⟨mkS m 0 q, j⟩ := by kernel_rfl) : CQ K P (.c (.region i l.toArray false) :: .c d :: k) F .normal ⟨s, h⟩ := CQ.rn G _ _ _ z e
theorem CQ.r3 (G : oV P) (m : Nat) (q : List (Nat × AV)) (j : CQ K P (.c d :: k) F .normal ⟨mkS m 0 q, h⟩) (e : AQ P l s h (q.map (·.1)) = some ⟨mkS m 0 q, h⟩ := by kernel_rfl) : CQ K P (.c (.region i l.toArray false) :: .c d :: k) F .normal ⟨s, h⟩ := CQ.rn G _ _ _ j e
end
section
variable {α β : Type} {γ : Type} {δ : Type}
theorem bd2 {x : Option α} {y : α -> Option β} {f : (a : α) -> β -> Option γ} {r : γ} (h : bdO x (fun a => bdO (y a) (f a)) = some r) : ∃ a, x = some a /\ ∃ b, y a = some b /\ f a b = some r := by
 obtain ⟨a, h1, h⟩ := bd h; obtain ⟨b, h2, h⟩ := bd h; exact ⟨a, h1, b, h2, h⟩
theorem bd3 {x : Option α} {y : α -> Option β} {z : α -> β -> Option γ} {f : (a : α) -> (b : β) -> γ -> Option δ} {r : δ} (h : bdO x (fun a => bdO (y a) (fun b => bdO (z a b) (f a b))) = some r) : ∃ a, x = some a /\ ∃ b, y a = some b /\ ∃ c, z a b = some c /\ f a b c = some r := by
 obtain ⟨a, h1, b, h2, h⟩ := bd2 h; obtain ⟨c, j, h⟩ := bd h; exact ⟨a, h1, b, h2, c, j, h⟩
theorem gd2 {a b : Bool} {t : Option α} {r : α} (h : gdO a (gdO b t) = some r) : a = true /\ b = true /\ t = some r := by
 obtain ⟨h1, h⟩ := gd h; exact ⟨h1, gd h⟩
theorem gd3 {a b c : Bool} {t : Option α} {r : α} (h : gdO a (gdO b (gdO c t)) = some r) : a = true /\ b = true /\ c = true /\ t = some r := by
 obtain ⟨h1, h⟩ := gd h; exact ⟨h1, gd2 h⟩
end
theorem aN.bd {P : Program} (G : oV P) {f : FuncId} {fn : Func} (m : P.funcs[f]? = some fn) {args : List AV} {r : AV} (rs : List ResultVar)
  (h : CQ 0 P [.c (fn.body.getD .skip)] (aL P rs r) .normal ⟨args ++ o8 (fn.ntmps - args.length), []⟩) (hb : fn.body.isSome = true := by kernel_rfl) (j : fn.results.toList = rs := by kernel_rfl) : aN P f args r :=
 aN.body G m (c := fn.body.getD .skip) (by cases h1 : fn.body with | none => rw [h1] at hb; cases hb | some c => rfl) rfl j h
theorem CQ.cd {P : Program} {K : Nat} {k : List Fr} {F : X -> St -> Prop} {st : St} {c : Operand} {a b : Code} {α : Type} {t : Bool} {x y : Option α} {r : α} (j : cdO t x y = some r)
  (h1 : t = true -> x = some r -> CQ K P (.c a :: k) F .normal st) (h2 : t = false -> y = some r -> CQ K P (.c b :: k) F .normal st) (m : evA st.slots c = .at (.bool t) := by kernel_rfl) : CQ K P (.c (.cond c a b) :: k) F .normal st :=
 CQ.cond m (fun h => h1 h (cI h j)) (fun h => h2 h (cJ h j))
theorem CQ.app {P : Program} {K : Nat} {q : List Fr} {F Q : X -> St -> Prop} (ha : ∀ x st', Q x st' -> CQ K P q F x st') : ∀ (m : List Fr) {x : X} {st : St}, CQ K P m Q x st -> CQ K P (m ++ q) F x st
 | [], _, _, h => ha _ _ h
 | .c d :: m, .normal, st, h => SC.mono (show SC K P st d (CQ K P m Q) from h) fun x st' z => CQ.app ha m z
 | .c d :: m, .exit j, st, h => CQ.app ha m (x := .exit j) h
 | .c d :: m, .ret, st, h => CQ.app ha m (x := .ret) h
 | .b i :: m, .normal, st, h => CQ.app ha m (x := .normal) h
 | .b i :: m, .ret, st, h => CQ.app ha m (x := .ret) h
 | .b i :: m, .exit j, st, h => by
  simp only [CQ, List.cons_append] at h ⊢
  split at h
  · exact CQ.app ha m h
  · exact CQ.app ha m h
theorem CQ.HE {P : Program} {K : Nat} {k : List Fr} {F Q : X -> St -> Prop} {st : St} {a : Code} (h : CQ K P [.c a] Q .normal st) (ha : ∀ x st', Q x st' -> CQ K P k F x st') : CQ K P (.c a :: k) F .normal st := CQ.app ha [.c a] h
theorem CQ.Ia {P : Program} {K : Nat} {k : List Fr} {F Q : X -> St -> Prop} {st : St} {a b : Code} (h : CQ K P [.c a, .c b] Q .normal st) (ha : ∀ x st', Q x st' -> CQ K P k F x st') : CQ K P (.c a :: .c b :: k) F .normal st := CQ.app ha [.c a, .c b] h
abbrev nS : AV := .at (.slice none 0 0)
theorem CQ.scope {P : Program} {K : Nat} {k : List Fr} {F : X -> St -> Prop} {st : St} {c : Code} (h : CQ K P (.c c :: k) F .normal st) : CQ K P (.c (.scope c) :: k) F .normal st := fun out B w π act R m q =>
 wp_scope_straight (h out B w π act _ m fun x st' a' w' π' z j C => by cases x <;> exact q _ st' a' w' π' z j C)
def FE {α : Type} (l : List α) (a : Nat) (ys : List α) : List α := (l.take a ++ ys ++ l.drop (a + ys.length)).take l.length
@[simp] theorem GY {α : Type} (l : List α) (a : Nat) (ys : List α) : (FE l a ys).length = l.length := by
 unfold FE
 simp only [List.length_take, List.length_append, List.length_drop]
 omega
def mL (K : Nat) (P : Program) (rs : List ResultVar) (us : List AV) (H1 : List Blk) : X -> St -> Prop := fun x st => ∃ T, Wk K st T /\ Ae K P rs us H1 x T
theorem mL.ret {K : Nat} {P : Program} {rs : List ResultVar} {us : List AV} {H1 : List Blk} {st : St} (vs : List AV) (k : Wk K ⟨vs, st.heap⟩ ⟨us, H1⟩) (h : dI P st rs = some vs := by kernel_rfl) : mL K P rs us H1 .ret st := ⟨st, Wk.refl st, Ae.ret vs k h⟩
theorem mL.normal {K : Nat} {P : Program} {rs : List ResultVar} {us : List AV} {H1 : List Blk} {st : St} (vs : List AV) (k : Wk K ⟨vs, st.heap⟩ ⟨us, H1⟩) (h : dI P st rs = some vs := by kernel_rfl) : mL K P rs us H1 .normal st := ⟨st, Wk.refl st, Ae.normal vs k h⟩
theorem mL.wk {K : Nat} {P : Program} {rs : List ResultVar} {us : List AV} {H1 : List Blk} {x : X} {st T : St} (hw : Wk K st T) (h : mL K P rs us H1 x T) : mL K P rs us H1 x st := by
 obtain ⟨U, h1, h2⟩ := h
 exact ⟨U, hw.trans h1, h2⟩
theorem SC.Gu {K : Nat} {P : Program} {st : St} {c : Code} {Q : X -> St -> Prop} (h : SC K P st c (fun x st' => ∃ T, Wk K st' T /\ Q x T)) : SC K P st c Q := fun out B w π a R q z => h out B w π a R q fun x st' a' w' π' j m C => by
 obtain ⟨T, hw, j⟩ := j
 obtain ⟨π2, g1, D, E⟩ := hw out B w' π' a' m
 exact z x T a' w' π2 j g1 (C.trans (EK.less D E))
theorem fT.yX {K : Nat} {P : Program} (G : oV P) {f : FuncId} {fn : Func} (q : P.funcs[f]? = some fn) {c : Code} (hb : fn.body = some c) {args us : List AV} {m H1 : List Blk} {s : List AV} {rs : List ResultVar} (hs : args ++ o8 (fn.ntmps - args.length) = s) (j : fn.results.toList = rs)
  (h : CQ K P [.c c] (mL K P rs us H1) .normal ⟨s, m⟩) : fT K P f args m (gX us) H1 := fT.body G q hb hs j (SC.Gu h)
section
variable {K : Nat}
theorem RvC.Hw {w : World} {mu : Nat -> Prop} {π : List (Option PB)} {A m : AV} (q : ∀ v, Rv w mu π A v -> Rv w mu π m v) : ∀ (cs : List AV) (j b o : Nat), cs[j]? = some A -> RvC w mu π cs b o -> RvC w mu π (cs.set j m) b o
 | [], j, _, _, h, _ => by simp at h
 | c :: cs, 0, b, o, h, k => by
  simp at h; subst h
  obtain ⟨⟨v, h1, h2, z⟩, C⟩ := k
  exact ⟨⟨v, h1, h2, q _ z⟩, C⟩
 | c :: cs, j + 1, b, o, h, k => ⟨k.1, RvC.Hw q cs j b (o + 1) (by simpa using h) k.2⟩
theorem Wk.HL (i j : Nat) {A E : AV} {cs : List AV} {s : List AV} {h : List Blk} (hA : ∀ (out B : Nat -> Prop) (w : World) (π : List (Option PB)) (v : Value), Inv out B w π h -> Rv w (aJ out π h) π A v -> Rv w (aJ out π h) π E v) (hb : h[i]? = some (.own cs)) (hc : cs[j]? = some A) : Wk K ⟨s, h⟩ ⟨s, h.set i (.own (cs.set j E))⟩ := fun out B w π a O => by
 have C := O.inv
 have M := aT hb
 have g : ∀ {k : Nat} {x : Blk}, (h.set i (.own (cs.set j E)))[k]? = some x -> (k = i /\ x = .own (cs.set j E)) \/ (k ≠ i /\ h[k]? = some x) := by
  intro k x z
  by_cases m : k = i
  · subst m
    rw [List.getElem?_set_self M] at z
    exact .inl ⟨rfl, (Option.some.inj z).symm⟩
  · rw [List.getElem?_set_ne (fun e => m e.symm)] at z
    exact .inr ⟨m, z⟩
 have old : ∀ {k : Nat} {x : Blk}, (h.set i (.own (cs.set j E)))[k]? = some x -> ∃ y, h[k]? = some y /\ y.isLive = x.isLive /\ y.hZ = x.hZ := by
  intro k x z
  rcases g z with ⟨rfl, rfl⟩ | ⟨_, z⟩
  · exact ⟨_, hb, rfl, rfl⟩
  · exact ⟨x, z, rfl, rfl⟩
 have I : aJ out π (h.set i (.own (cs.set j E))) = aJ out π h := by
  funext b
  apply propext
  constructor
  · rintro (hb | ⟨k, x, p, h1, h2, D, J⟩)
    · exact .inl hb
    · obtain ⟨y, N, _, y3⟩ := old h1
      exact .inr ⟨k, y, p, N, by rw [y3]; exact h2, D, J⟩
  · rintro (T | ⟨k, x, p, h1, h2, D, J⟩)
    · exact .inl T
    · by_cases m : k = i
      · subst m
        exact .inr ⟨k, .own (cs.set j E), p, List.getElem?_set_self M, rfl, D, J⟩
      · exact .inr ⟨k, x, p, by rw [List.getElem?_set_ne (fun e => m e.symm)]; exact h1, h2, D, J⟩
 refine ⟨π, ⟨O.defers, ?_, ?_⟩, fun b hb => ?_, oR.refl π⟩
 · simp only [I]; exact O.slots
 · refine ⟨by simpa using C.len, C.bound, C.out_lt, ?_, ?_, ?_⟩
   · intro k x p h1 h2 D
     obtain ⟨y, N, U, _⟩ := old h1
     exact C.base k y p N h2 (by rw [U]; exact D)
   · intro k x p h1 h2
     simp only [I]
     rcases g h1 with ⟨rfl, rfl⟩ | ⟨_, z⟩
     · obtain ⟨o1, o2⟩ := C.ok k _ p hb h2
       exact ⟨o1, RvC.Hw (fun v hv => hA out B w π v C hv) cs j _ _ hc o2⟩
     · exact C.ok k x p z h2
   · intro k l x y p q Y h1 h2 D J h5 h6
     obtain ⟨x', x1, _, x3⟩ := old h1
     obtain ⟨y', N, U, _⟩ := old h2
     exact C.sep k l x' y' p q Y x1 N D J (by rw [x3]; exact h5) (by rw [U]; exact h6)
 · rw [I] at hb; exact hb
theorem Wk.EM (i j : Nat) {b len es : Nat} {cs cs' : List AV} {s : List AV} {h : List Blk} (hi : h[i]? = some (.own cs')) (hc : cs'[j]? = some (.hs b 0 len es)) (hb : h[b]? = some (.fix cs)) (hp : ct cs = []) (z : len = 0 -> cs = []) : Wk K ⟨s, h⟩ ⟨s, h.set i (.own (cs'.set j (.sl true cs len)))⟩ := Wk.HL i j (fun out B w π v C D => by
 rcases D with ⟨rfl, rfl⟩ | ⟨p, a, cap, h1, rfl, h2, m, E⟩
 · exact .inl ⟨rfl, rfl, z rfl, rfl⟩
 · obtain ⟨g1, I⟩ := DG C b p cs hb h1
   obtain ⟨ab, J, M⟩ := a
   simp only at m; subst m
   by_cases q : 0 < cap
   · obtain ⟨e1, _⟩ := E q
     cases e1
     exact .inr (.inl ⟨_, _, cap, rfl, h2, fun _ => I, oB (fun _ h => h) cs _ _ hp g1⟩)
   · have : cs = [] := z (by omega)
     subst this
     exact .inr (.inl ⟨ab, J, cap, rfl, h2, fun h => (h rfl).elim, trivial⟩)) hi hc
end
end Go.Eng
namespace Go.L
open Go Go.Eng
variable [Dr]
theorem Sn.hse {H : List Blk} {ok : Nat -> Bool} {b len es : Nat} {cs cs' : List AV} {α : Type} {l : List α} (e : l.length = len) (j : ok b = true) (hb : H[b]? = some (.own cs) \/ H[b]? = some (.fix cs)) (h : SnC H ok cs cs') (m : l.length = 0 -> cs' = []) : Sn H ok (.hs b 0 len es) (.sl true cs' l.length) := by subst e; exact Sn.hs j hb h m
end Go.L


set_option linter.all false
namespace Go.Eng
open Go Go.RowKit
variable [Dr]
theorem Et {k : IntKind} {xs : List Int} {j : Int} (h : inR j xs.length = true) : (xs.flatMap (iC k))[j.toNat]? = some (.at (.int k (gt xs j))) :=
 aS (c := iC k) (es := 1) (i := j.toNat) (k := 0) (aK k) (aI h) (by omega) (by omega) rfl
theorem s8 {k : IntKind} {cs : List AV} {xs : List Int} {j : Int} {o kk : Nat} (h : inR j xs.length = true) (m : o = kk + j.toNat * 1) (hx : (cs.drop kk).take xs.length = xs.flatMap (iC k)) : cs[o]? = some (.at (.int k (gt xs j))) := by
 have h1 := aI h
 have h2 := Et (k := k) h
 rw [<- hx, List.getElem?_take, if_pos h1, List.getElem?_drop] at h2
 rw [m, Nat.mul_one]; exact h2
section
variable {α : Type} {c : α -> List AV} {es : Nat} {l : List α}
theorem Sn.to {H : List Blk} {ok : Nat -> Bool} {A m j : AV} (h : Sn H ok A m) (k : ∀ (w : World) (mu : Nat -> Prop) (π : List (Option PB)) (u : Value), Rv w mu π m u -> Rv w mu π j u) : Sn H ok A j := fun w mu mu' π v q hm z => k _ _ _ _ (h w mu mu' π v q hm z)
end
section
variable {P : Program} {ρ : Operand -> AV} {H : List Blk} {nid : Nat} {dst : Option Tmp} {ty t u : TypeId} {pos : String} {after : Array Edge} {g : Option (Nat × Bool)} {a b : Operand} {k k' : IntKind} {x y : Int}
end
theorem CQ.nh {K : Nat} {P : Program} {k : List Fr} {F : X -> St -> Prop} {d : Code} {s : List AV} {h : List Blk} (j : List Nat) (m : List Blk) (q : CQ K P (.c d :: k) F .normal ⟨oN j s 0, m⟩) (e2 : h = m := by kernel_rfl) : CQ K P (.c d :: k) F .normal ⟨s, h⟩ := CQ.norm j rfl e2 q
def vp (s : List AV) : List (Nat × AV) -> List AV
 | [] => s
 | (i, x) :: q => vp (s.set i x) q
theorem CQ.r4 {K : Nat} {P : Program} {k : List Fr} {F : X -> St -> Prop} {d : Code} {s : List AV} {h : List Blk} {i : Nat} {l : List Oper} (G : oV P) (j : List Nat) (q : List (Nat × AV)) (m : CQ K P (.c d :: k) F .normal ⟨vp (oN j s 0) q, h⟩) (e : AQ P l s h (j ++ q.map (·.1)) = some ⟨vp (oN j s 0) q, h⟩ := by kernel_rfl) : CQ K P (.c (.region i l.toArray false) :: .c d :: k) F .normal ⟨s, h⟩ := CQ.rn G _ _ _ m e
theorem CQ.r5 {K : Nat} {P : Program} {k : List Fr} {F : X -> St -> Prop} {d : Code} {s : List AV} {h : List Blk} {i : Nat} {l : List Oper} (G : oV P) (j : List Nat) (q : List (Nat × AV)) (m : List Blk) (z : CQ K P (.c d :: k) F .normal ⟨vp (oN j s 0) q, m⟩) (e : AQ P l s h (j ++ q.map (·.1)) = some ⟨vp (oN j s 0) q, m⟩ := by kernel_rfl) : CQ K P (.c (.region i l.toArray false) :: .c d :: k) F .normal ⟨s, h⟩ := CQ.rn G _ _ _ z e
theorem oi {α : Type} {x y : α} (h : some x = some y) : x = y := Option.some.inj h
theorem tr {α : Type} {x y z : α} (h : y = z) (hx : x = y := by kernel_rfl) : x = z := hx.trans h
theorem eB {x : Option bs} {e b : Bool} (h : e = b) (hx : x = some (.pure (.at (.bool e))) := by kernel_rfl) : x = some (.pure (.at (.bool b))) := by rw [hx, h]
section
variable {P : Program} {call : dz} {ops rest : List Oper} {o : Oper} {s : List AV} {h : List Blk} {K : List AV -> List Blk -> Prop} {KT : List AV -> List Blk -> List Ent -> Prop}
theorem EVO.pk {v : AV} (he : evalOp P (evA s) h h.length o = some (.pure v)) (j : EVO P call ops rest (fS s o.dst v) h K) (hw : cS ops o s = some true := by kernel_rfl) : EVO P call ops (o :: rest) s h K := EVO.pure hw he j
theorem EVO.ek {v : AV} {ws : List (Nat × Blk)} (he : evalOp P (evA s) h h.length o = some (.eff v ws)) (j : EVO P call ops rest (fS s o.dst v) (aM h ws) K) (hw : cS ops o s = some true := by kernel_rfl) : EVO P call ops (o :: rest) s h K := EVO.eff hw he j
theorem EVT.pk {v : AV} (he : evalOp P (evA s) h h.length o = some (.pure v)) (m : EVT P call ops rest (fS s o.dst v) h (fun q z es => KT q z (sz o s h v [] :: es))) (hw : cS ops o s = some true := by kernel_rfl) (j : me h.length (sz o s h v []) = true := by kernel_rfl) : EVT P call ops (o :: rest) s h KT := EVT.pure hw he j m
theorem EVT.ek {v : AV} {ws : List (Nat × Blk)} (he : evalOp P (evA s) h h.length o = some (.eff v ws)) (m : EVT P call ops rest (fS s o.dst v) (aM h ws) (fun q z es => KT q z (sz o s h v ws :: es))) (hw : cS ops o s = some true := by kernel_rfl) (j : me h.length (sz o s h v ws) = true := by kernel_rfl) : EVT P call ops (o :: rest) s h KT := EVT.eff hw he j m
end
theorem oj {α : Type} {x y : α} (h : some x = some y) : y = x := (Option.some.inj h).symm
theorem gS {α : Type _} {a b : α} : (some a).getD b = a := rfl
theorem bT (b : Bool) : b = true \/ b = false := Bool.eq_false_or_eq_true b
theorem Sp {H : List Blk} {ok : Nat -> Bool} {A : AV} {m j : List AV} (k : SnL H ok m j) (h : mf A = [] := by exact rfl) : SnL H ok (A :: m) (A :: j) := SnL.cons (Sn.pure h) k
abbrev kT3 : List (Nat × Bool) := [(0, true), (1, true), (2, true)]
abbrev kT4 : List (Nat × Bool) := [(0, true), (1, true), (2, true), (3, true)]
abbrev kF3 : List (Nat × Bool) := [(0, false), (1, false), (2, false)]
theorem z1 : 0 < 1 := by decide
theorem kRf {p : Prop} (h : p := by kernel_rfl) : p := h
theorem kRa {p q : Prop} (k : q) (h : p := by kernel_rfl) : p /\ q := ⟨h, k⟩
theorem CQ.sh {K : Nat} {P : Program} {k : List Fr} {F : X -> St -> Prop} {x : X} {s : List AV} {h : List Blk} (c : CQ K P k F x ⟨s, h⟩) : CQ K P k F x ⟨s, h⟩ := c
end Go.Eng

