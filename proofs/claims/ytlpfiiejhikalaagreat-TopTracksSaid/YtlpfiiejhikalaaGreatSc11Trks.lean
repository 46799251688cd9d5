import Derived.Test.YtlpfiiejhikalaaGreatSc6Trks
import Derived.KernelRfl
import Derived.Scope
set_option linter.all false
namespace Go.Eng
open Go Go.RowKit
variable [Dr]
variable {K : Nat} {P : Program}
def bx (K : Nat) (P : Program) (f : FuncId) (args : List AV) (H0 : List Blk) (r : AV) (H1 : List Blk) : Prop :=
 ∀ (out : Nat -> Prop) (B : Nat -> Prop) (w : World) (Z : List (Option PB)) (vs : List Value), Inv out B w Z H0 -> RvL w (aH out Z H0) Z args vs ->
  Calls P f vs.toArray w fun e w' => ∃ u Z', e = .returned u /\ EK K B w w' (aH out Z H0) (aH out Z' H1) Z Z' /\ Inv out B w' Z' H1 /\ Rv w' (aH out Z' H1) Z' r u
theorem zT {w : World} {mu : Nat -> Prop} {Z : List (Option PB)} : ∀ {vs : List AV} {u : Value}, Rv w mu Z (fR vs) u -> ∃ l : List Value, RvL w mu Z vs l /\ ∀ (w' : World) (mu' : Nat -> Prop) (Z' : List (Option PB)) (us : List AV), RvL w' mu' Z' us l -> Rv w' mu' Z' (fR us) u
 | [], u, h => by
  obtain ⟨a, rfl, h⟩ := h
  have h0 : a.toList = [] := h
  refine ⟨[], rfl, fun w' mu' Z' us hus => ?_⟩
  cases us with
  | nil => exact ⟨a, rfl, h0⟩
  | cons x us => obtain ⟨v, vs', e, _⟩ := hus; cases e
 | [v], u, h => by
  refine ⟨[u], ⟨u, [], rfl, h, rfl⟩, fun w' mu' Z' us hus => ?_⟩
  cases us with
  | nil => cases hus
  | cons x us =>
   obtain ⟨v', vs', e, h1, h2⟩ := hus
   cases e
   cases us with
   | nil => exact h1
   | cons y us => obtain ⟨_, _, e, _⟩ := h2; cases e
 | v1 :: v2 :: vs, u, h => by
  obtain ⟨a, rfl, h⟩ := h
  refine ⟨a.toList, h, fun w' mu' Z' us hus => ?_⟩
  obtain ⟨x1, l1, e1, _, x2, l2, e2, _⟩ := h
  cases us with
  | nil => rw [e1] at hus; cases hus
  | cons y1 us =>
   cases us with
   | nil =>
    obtain ⟨z, zs, e, _, h2⟩ := hus
    rw [e1] at e; cases e; rw [e2] at h2; cases h2
   | cons y2 us => exact ⟨a, rfl, hus⟩
def uk (K : Nat) (P : Program) (rs : List ResultVar) (us : List AV) (H1 : List Blk) : X -> St -> Prop
 | .exit _, _ => False
 | _, st => ∃ vs, dx P st rs = some vs /\ Wk K ⟨vs, st.heap⟩ ⟨us, H1⟩
theorem uk.ret {rs : List ResultVar} {us : List AV} {H1 : List Blk} {st : St} (vs : List AV) (k : Wk K ⟨vs, st.heap⟩ ⟨us, H1⟩) (h : dx P st rs = some vs := by kernel_rfl) : uk K P rs us H1 .ret st := ⟨vs, h, k⟩
theorem uk.normal {rs : List ResultVar} {us : List AV} {H1 : List Blk} {st : St} (vs : List AV) (k : Wk K ⟨vs, st.heap⟩ ⟨us, H1⟩) (h : dx P st rs = some vs := by kernel_rfl) : uk K P rs us H1 .normal st := ⟨vs, h, k⟩
theorem bx.body (G : lH P) {f : FuncId} {fn : Func} (hf : P.funcs[f]? = some fn) {c : Code} (hb : fn.body = some c) {args us : List AV} {H0 H1 : List Blk} {s : List AV} {rs : List ResultVar} (hs : args ++ oO (fn.ntmps - args.length) = s) (hrs : fn.results.toList = rs)
  (h : CQ K P [.c c] (uk K P rs us H1) .normal ⟨s, H0⟩) : bx K P f args H0 (fR us) H1 := by
 intro out B w Z vs hI ha
 subst hs
 subst hrs
 refine calls_of_wp hf hb ?_
 have hlen := RvL.length _ _ ha
 have hR : Rep out B w Z ⟨args ++ oO (fn.ntmps - args.length), H0⟩ { tmps := vs.toArray ++ Array.replicate (fn.ntmps - vs.toArray.size) undef, defers := [] } := by
  refine ⟨rfl, ?_, hI⟩
  simp only [Array.toList_append, Array.toList_replicate, List.size_toArray, hlen]
  refine RvL.append _ _ _ _ ha ?_
  refine RvL.lj _ _ (by simp [oO]) fun i x y h1 h2 => ?_
  have := List.mem_of_getElem? h1
  simp [oO] at this
  rw [this.2]; trivial
 refine h out B w Z _ _ hR fun x st' a' w' Z' hq hR' hE => ?_
 have fin : ∀ vs', dx P st' fn.results.toList = some vs' -> Wk K ⟨vs', st'.heap⟩ ⟨us, H1⟩ -> ∃ u, (results fn a'.tmps).run P w' = .ok u w' /\ ∃ u' Z2, (Ending.returned u) = .returned u' /\ EK K B w w' (aH out Z H0) (aH out Z2 H1) Z Z2 /\ Inv out B w' Z2 H1 /\ Rv w' (aH out Z2 H1) Z2 (fR us) u' := by
  intro vs' hv hwk
  obtain ⟨u, r1, r2⟩ := kF hR' hv
  obtain ⟨l, l1, l2⟩ := zT r2
  obtain ⟨Z2, k1, k2, k3⟩ := hwk out B w' Z' { tmps := l.toArray, defers := [] } ⟨rfl, l1, hR'.inv⟩
  exact ⟨u, r1, u, Z2, rfl, hE.trans (EK.less k2 k3), k1.inv, l2 _ _ _ _ k1.slots⟩
 cases x with
 | normal => obtain ⟨vs', h1, h2⟩ := hq; exact ⟨hR'.defers, fin vs' h1 h2⟩
 | ret => obtain ⟨vs', h1, h2⟩ := hq; exact ⟨hR'.defers, fin vs' h1 h2⟩
 | exit id => exact hq.elim
theorem cS.qt {w : World} {mu : Nat -> Prop} {Z : List (Option PB)} {p : PB} {x : Blk} (h : x.isLive = false) : cS w mu Z p x := by
 cases x with
 | dead => trivial
 | own cs => cases h
 | fix cs => cases h
 | map es => cases h
 | iter m n seen => cases h
 | rows rs => cases h
 | mapr d ez l => cases h
set_option maxHeartbeats 1000000
theorem qV : ∀ (ws : List (Nat × Blk)) (H : List Blk), (∀ q ∈ ws, q.1 < H.length) -> (aO H ws).length = H.length
 | [], H, _ => rfl
 | (j, b) :: ws, H, h => by
  have hj := h (j, b) (by simp)
  have hl : (upd H j b).length = H.length := by rw [cJ (by omega), if_neg (by simp only at hj; omega)]
  simp only [aO]
  rw [qV ws (upd H j b) (fun q hq => by rw [hl]; exact h q (by simp [hq])), hl]
theorem nR : ∀ (ws : List (Nat × Blk)) (H : List Blk) (j : Nat), (∀ q ∈ ws, q.1 < H.length) -> (∀ b, (j, b) ∉ ws) -> (aO H ws)[j]? = H[j]?
 | [], H, _, _, _ => rfl
 | (i, b) :: ws, H, j, h, hj => by
  have hi := h (i, b) (by simp)
  simp only at hi
  have hl : (upd H i b).length = H.length := by rw [cJ (by omega), if_neg (by omega)]
  simp only [aO]
  rw [nR ws (upd H i b) j (fun q hq => by rw [hl]; exact h q (by simp [hq])) (fun x hx => hj x (by simp [hx])), er (by omega), if_neg]
  rintro rfl
  exact hj b (by simp)
theorem sf : ∀ (ws : List (Nat × Blk)) (H : List Blk) (j : Nat) (b : Blk), (∀ q ∈ ws, q.1 < H.length) -> (ws.map (·.1)).Nodup -> (j, b) ∈ ws -> (aO H ws)[j]? = some b
 | [], _, _, _, _, _, h => by simp at h
 | (i, x) :: ws, H, j, b, h, hn, hm => by
  have hi := h (i, x) (by simp)
  simp only at hi
  have hl : (upd H i x).length = H.length := by rw [cJ (by omega), if_neg (by omega)]
  have hn' := List.nodup_cons.1 (by simpa using hn : (i :: ws.map (·.1)).Nodup)
  simp only [aO]
  have hrest : ∀ q ∈ ws, q.1 < (upd H i x).length := fun q hq => by rw [hl]; exact h q (by simp [hq])
  rcases List.mem_cons.1 hm with e | hm
  · obtain ⟨rfl, rfl⟩ := Prod.mk.inj e
    rw [nR ws _ j hrest (fun y hy => hn'.1 (List.mem_map.2 ⟨(j, y), hy, rfl⟩)), er (by omega), if_pos rfl]
  · exact sf ws _ j b hrest hn'.2 hm
theorem qE : ∀ (l : List (Nat × Bool)), mq l = true -> (l.map (·.1)).Nodup
 | [], _ => List.nodup_nil
 | (b, t) :: l, h => by
  simp only [mq, Bool.and_eq_true] at h
  obtain ⟨h1, h2⟩ := h
  have hno : posOf l b 0 = none := by
   cases hb : posOf l b 0 with
   | none => rfl
   | some c => rw [hb] at h1; cases h1
  refine List.nodup_cons.2 ⟨fun hm => ?_, qE l h2⟩
  obtain ⟨q, hq, he⟩ := List.mem_map.1 hm
  obtain ⟨j, hj⟩ := List.getElem?_of_mem hq
  exact lP l b 0 hno j q.2 (by rw [hj]; exact congrArg some (Prod.ext he rfl))
def tM (K : Nat) (keep : List (Nat × Bool)) (n m : Nat) : List Nat := (keep.take K).map (·.1) ++ List.range' n m
def qC (ρ : Nat -> Option Nat) : List Nat -> List Bool -> List Blk -> List (Nat × Blk)
 | j :: js, t :: ts, x :: xs => (j, rfB ρ t x) :: qC ρ js ts xs
 | _, _, _ => []
def pW : List (Nat × Bool) -> List (Nat × Blk)
 | [] => []
 | (b, _) :: l => (b, .dead) :: pW l
def yN (K : Nat) (keep : List (Nat × Bool)) (n m : Nat) (ts : List Bool) (H1 : List Blk) : List (Nat × Blk) :=
 qC (fun k => (tM K keep n m)[k]?) (tM K keep n m) ts H1 ++ pW (keep.drop K)
def uc : List Bool -> List Blk -> Prop
 | false :: ts, x :: xs => rD (some x) /\ uc ts xs
 | true :: ts, _ :: xs => uc ts xs
 | _, _ => True
theorem ve (ρ : Nat -> Option Nat) : ∀ (js : List Nat) (ts : List Bool) (xs : List Blk), js.length = xs.length -> ts.length = xs.length -> (qC ρ js ts xs).map (·.1) = js
 | [], [], [], _, _ => rfl
 | j :: js, t :: ts, x :: xs, h1, h2 => by simp only [qC, List.map_cons]; rw [ve ρ js ts xs (by simpa using h1) (by simpa using h2)]
 | [], _ :: _, _, h1, h2 => by cases (List.eq_nil_of_length_eq_zero (by simpa using h1.symm)); simp at h2
 | _ :: _, [], _, h1, h2 => by cases (List.eq_nil_of_length_eq_zero (by simpa using h2.symm)); simp at h1
 | [], [], _ :: _, h1, _ => by simp at h1
 | _ :: _, _ :: _, [], h1, _ => by simp at h1
theorem tZ (ρ : Nat -> Option Nat) : ∀ (js : List Nat) (ts : List Bool) (xs : List Blk) (j : Nat) (b : Blk), (j, b) ∈ qC ρ js ts xs -> ∃ (k : Nat) (t : Bool) (x : Blk), js[k]? = some j /\ ts[k]? = some t /\ xs[k]? = some x /\ b = rfB ρ t x
 | [], _, _, _, _, h => by simp [qC] at h
 | _ :: _, [], _, _, _, h => by simp [qC] at h
 | _ :: _, _ :: _, [], _, _, h => by simp [qC] at h
 | j' :: js, t :: ts, x :: xs, j, b, h => by
  simp only [qC, List.mem_cons, Prod.mk.injEq] at h
  rcases h with ⟨rfl, rfl⟩ | h
  · exact ⟨0, t, x, rfl, rfl, rfl, rfl⟩
  · obtain ⟨k, t', x', h1, h2, h3, h4⟩ := tZ ρ js ts xs j b h
    exact ⟨k + 1, t', x', by simpa using h1, by simpa using h2, by simpa using h3, h4⟩
theorem sI : ∀ l : List (Nat × Bool), (pW l).map (·.1) = l.map (·.1)
 | [] => rfl
 | (b, t) :: l => by simp only [pW, List.map_cons, sI l]
theorem sS : ∀ (l : List (Nat × Bool)) (j : Nat) (b : Blk), (j, b) ∈ pW l -> b = .dead
 | [], _, _, h => by simp [pW] at h
 | (i, t) :: l, j, b, h => by
  simp only [pW, List.mem_cons, Prod.mk.injEq] at h
  rcases h with ⟨_, rfl⟩ | h
  · rfl
  · exact sS l j b h
theorem pt : ∀ (ts : List Bool) (xs : List Blk) (k : Nat) (x : Blk), uc ts xs -> ts[k]? = some false -> xs[k]? = some x -> rD (some x)
 | [], _, k, x, _, h, _ => by simp at h
 | _ :: _, [], k, x, _, _, h => by simp at h
 | false :: ts, y :: xs, 0, x, hp, _, h => by simp at h; subst h; exact hp.1
 | false :: ts, y :: xs, k + 1, x, hp, h1, h2 => pt ts xs k x hp.2 (by simpa using h1) (by simpa using h2)
 | true :: ts, y :: xs, 0, x, hp, h, _ => by simp at h
 | true :: ts, y :: xs, k + 1, x, hp, h1, h2 => pt ts xs k x hp (by simpa using h1) (by simpa using h2)
theorem sT {H H' : List Blk} {keep : List (Nat × Bool)} : ∀ (l : List (Nat × Bool)), (∀ q ∈ l, H'[q.1]? = H[q.1]?) -> rnH H' keep l = rnH H keep l
 | [], _ => rfl
 | (b, t) :: l, h => by
  simp only [rnH]
  rw [h (b, t) (by simp), sT l fun q hq => h q (by simp [hq])]
theorem my {H H' : List Blk} : ∀ (l : List (Nat × Bool)), (∀ q ∈ l, H'[q.1]? = H[q.1]?) -> gu H l -> gu H' l
 | [], _, _ => trivial
 | (b, false) :: l, h, hp => ⟨by rw [h (b, false) (by simp)]; exact hp.1, my l (fun q hq => h q (by simp [hq])) hp.2⟩
 | (b, true) :: l, h, hp => my l (fun q hq => h q (by simp [hq])) hp
theorem vX {f : FuncId} {args args0 : List AV} {H H0 H1 : List Blk} {r v : AV} {ws : List (Nat × Blk)} {m : Nat} {rd : List Nat} (K : Nat) (keep : List (Nat × Bool)) (ts : List Bool) (hrun : bx K P f args0 H0 r H1)
  (hpure : gu H keep) (hpt : uc ts H1) (hlen1 : H1.length = K + m) (hlent : ts.length = H1.length)
  (hn : mq keep = true := by kernel_rfl) (hlt : keep.all (fun q => Nat.blt q.1 H.length) = true := by kernel_rfl) (hK : Nat.ble K keep.length = true := by kernel_rfl)
  (hargs : rnL keep args = args0 := by kernel_rfl) (hH : rnH H keep keep = H0 := by kernel_rfl)
  (hv : rfA (fun k => (tM K keep H.length m)[k]?) r = v := by kernel_rfl) (hws : yN K keep H.length m ts H1 = ws := by kernel_rfl) (hrd : keep.map (·.1) = rd := by kernel_rfl) : ik P f args H (.loc v ws rd m) := by
 intro H' hlen hag out B w Z vs hI hπ ha
 subst hrd hH hargs
 have hK : K <= keep.length := lbT hK
 have hltb : ∀ q ∈ keep, q.1 < H.length := fun q hq => by have := List.all_eq_true.1 hlt q hq; simpa [Nat.blt_eq] using this
 have hagq : ∀ q ∈ keep, H'[q.1]? = H[q.1]? := fun q hq => hag q.1 (List.mem_map.2 ⟨q, hq, rfl⟩) (hltb q hq)
 rw [<- sT keep hagq] at hrun
 have hpure' := my keep hagq hpure
 have hnod := qE keep hn
 have hl := hI.len
 obtain ⟨Z0, hπ0⟩ : ∃ Z0 : List (Option PB), Z0 = keep.map fun q => (Z[q.1]?).getD none := ⟨_, rfl⟩
 have hπm : ∀ b c p, posOf keep b 0 = some c -> Z[b]? = some (some p) -> Z0[c]? = some (some p) := by
  intro b c p h1 h2
  obtain ⟨j, t, rfl, h3⟩ := py keep b 0 c h1
  rw [hπ0, List.getElem?_map, Nat.zero_add, h3]
  simp [h2]
 have back : ∀ {j : Nat} {x : Blk} {p : PB}, (rnH H' keep keep)[j]? = some x -> x.isLive = true -> Z0[j]? = some (some p) -> ∃ b t y, keep[j]? = some (b, t) /\ H'[b]? = some y /\ rfB (fun b => posOf keep b 0) t y = x /\ Z[b]? = some (some p) := by
  intro j x p h1 h2 h3
  obtain ⟨b, t, y, g1, g2, g3⟩ := tf keep j x h1 h2
  refine ⟨b, t, y, g1, g2, g3, ?_⟩
  rw [hπ0, List.getElem?_map, g1] at h3
  simp only [Option.map_some, Option.some.injEq] at h3
  cases hb : Z[b]? with
  | none => rw [hb] at h3; cases h3
  | some q => rw [hb] at h3; simp only [Option.getD_some] at h3; rw [h3]
 have isin : ∀ {j b : Nat} {t : Bool}, keep[j]? = some (b, t) -> b ∈ keep.map (·.1) := fun h => List.mem_map.2 ⟨_, List.mem_of_getElem? h, rfl⟩
 obtain ⟨out0, hout0⟩ : ∃ o : Nat -> Prop, o = fun b => out b \/ ∃ (i : Nat) (x : Blk) (p : PB), H'[i]? = some x /\ x.eh = true /\ i ∉ keep.map (·.1) /\ Z[i]? = some (some p) /\ x.owns p b := ⟨_, rfl⟩
 obtain ⟨Q0, hQ0⟩ : ∃ Q : Nat -> Prop, Q = fun b => b < w.heap.size /\ ¬ ∃ (k : Nat) (x : Blk) (p : PB), (rnH H' keep keep)[k]? = some x /\ x.isLive = true /\ Z0[k]? = some (some p) /\ x.owns p b := ⟨_, rfl⟩
 have hmu : ∀ b, aH out0 Z0 (rnH H' keep keep) b -> aH out Z H' b := by
  rintro b (ho | ⟨j, x, p, e1, e2, e3, e4⟩)
  · rw [hout0] at ho
    rcases ho with ho | ⟨i, x, p, g1, g2, _, g3, g4⟩
    · exact .inl ho
    · exact .inr ⟨i, x, p, g1, g2, g3, g4⟩
  · obtain ⟨b', t, y, g1, g2, g3, g4⟩ := back e1 (Blk.bS e2) e3
    exact .inr ⟨b', y, p, g2, lG (by rw [g3]; exact e2), g4, dR (by rw [g3]; exact e4)⟩
 have hB0 : ∀ b, B b -> Q0 b := by
  intro b hb
  rw [hQ0]
  refine ⟨hI.bound b hb, ?_⟩
  rintro ⟨k, x, p, e1, e2, e3, e4⟩
  obtain ⟨b', t, y, g1, g2, g3, g4⟩ := back e1 e2 e3
  exact (hI.baseO b' y p b g2 g4 (dR (by rw [g3]; exact e4))).1 hb
 have hI0 : Inv out0 Q0 w Z0 (rnH H' keep keep) := by
  refine ⟨by rw [hπ0, List.length_map]; exact (nN keep).symm, fun b hb => by rw [hQ0] at hb; exact hb.1, ?_, ?_, ?_, ?_⟩
  · intro b hb
    rw [hout0] at hb
    rcases hb with hb | ⟨i, x, p, g1, g2, g3, g4, g5⟩
    · exact hB0 b (hI.out_lt b hb)
    · rw [hQ0]
      refine ⟨(hI.baseO i x p b g1 g4 g5).2, ?_⟩
      rintro ⟨k, y, q, e1, e2, e3, e4⟩
      obtain ⟨b', t, z, k1, k2, k3, k4⟩ := back e1 e2 e3
      refine hI.sepO i b' x z p q b ?_ g1 k2 g4 k4 g2 g5 (dR (by rw [k3]; exact e4))
      rintro rfl
      exact g3 (isin k1)
  · intro j x p b0 e1 e2 e3
    refine ⟨fun hq => ?_, ?_⟩
    · rw [hQ0] at hq; exact hq.2 ⟨j, x, p, e1, Blk.cU e3, e2, e3⟩
    · obtain ⟨b, t, y, g1, g2, g3, g4⟩ := back e1 (Blk.cU e3) e2
      exact (hI.baseO b y p b0 g2 g4 (dR (by rw [g3]; exact e3))).2
  · intro j x p e1 e2
    cases hx : x.isLive with
    | false => exact cS.qt hx
    | true =>
     obtain ⟨b, t, y, g1, g2, g3, g4⟩ := back e1 hx e2
     have hok := hI.ok b y p g2 g4
     subst g3
     exact vT hmu hπm (fun ht => by subst ht; have := mT keep hpure' j b g1; rw [g2] at this; exact this) hok
  · intro i j x y p q b0 hij e1 e2 e3 e4 e5 e6 e7
    obtain ⟨b, t, z, g1, g2, g3, g4⟩ := back e1 (Blk.bS e5) e3
    obtain ⟨b', t', z', k1, k2, k3, k4⟩ := back e2 (Blk.cU e7) e4
    refine hI.sepO b b' z z' p q b0 ?_ g2 k2 g4 k4 (lG (by rw [g3]; exact e5)) (dR (by rw [g3]; exact e6)) (dR (by rw [k3]; exact e7))
    rintro rfl
    exact hij (mN keep hn i j b t t' g1 k1)
 refine (hrun out0 Q0 w Z0 vs hI0 (nL hmu hπm args _ ha)).mono ?_
 rintro e w' ⟨u, Z1, rfl, hE, hI1, hr⟩
 obtain ⟨tg, htg⟩ : ∃ tg, tg = tM K keep H.length m := ⟨_, rfl⟩
 have htl : tg.length = K + m := by rw [htg]; simp only [tM, List.length_append, List.length_map, List.length_take, List.length_range']; omega
 have htk : ∀ k, k < K -> ∃ t, keep[k]? = some (tg[k]?.getD 0, t) /\ tg[k]? = some (tg[k]?.getD 0) := by
  intro k hk
  have hk' : k < keep.length := by omega
  refine ⟨keep[k].2, ?_⟩
  have : tg[k]? = some keep[k].1 := by
   rw [htg, tM, List.getElem?_append_left (by simp; omega), List.getElem?_map, List.getElem?_take, if_pos hk, geT hk']; rfl
  rw [this]
  simp [geT hk']
 have htn : ∀ k, K <= k -> k < K + m -> tg[k]? = some (H.length + (k - K)) := by
  intro k h1 h2
  rw [htg, tM, List.getElem?_append_right (by simp; omega)]
  have : (List.map (fun x : Nat × Bool => x.1) (List.take K keep)).length = K := by simp; omega
  rw [this, List.getElem?_range' (by omega)]
  simp
 have htnd : tg.Nodup := by
  rw [htg, tM, List.nodup_append]
  refine ⟨?_, List.nodup_range', ?_⟩
  · rw [List.map_take]; exact List.Sublist.nodup (List.take_sublist _ _) hnod
  · rintro a ha' b hb rfl
    obtain ⟨q, hq, rfl⟩ := List.mem_map.1 ha'
    have h1 := hltb q (List.mem_of_mem_take hq)
    have := (List.mem_range'_1.1 hb).1
    omega
 have htinj : ∀ {i j c : Nat}, tg[i]? = some c -> tg[j]? = some c -> i = j := by
  intro i j c h1 h2
  have hi := aE h1
  have hj := aE h2
  rw [geT hi] at h1
  rw [geT hj] at h2
  exact (List.getElem_inj htnd).1 (by rw [Option.some.inj h1, Option.some.inj h2])
 have hzm : (qC (fun k => tg[k]?) tg ts H1).map (·.1) = tg := ve _ _ _ _ (by rw [htl, hlen1]) hlent
 rw [<- htg] at hv
 have hws' : ws = qC (fun k => tg[k]?) tg ts H1 ++ pW (keep.drop K) := by rw [<- hws, yN, <- htg]
 have hwm : ws.map (·.1) = tg ++ (keep.drop K).map (·.1) := by rw [hws', List.map_append, hzm, sI]
 have hwnd : (ws.map (·.1)).Nodup := by
  rw [hwm, List.nodup_append]
  refine ⟨htnd, ?_, ?_⟩
  · rw [List.map_drop]; exact List.Sublist.nodup (List.drop_sublist _ _) hnod
  · rintro a ha' b hb rfl
    obtain ⟨k, hk⟩ := List.getElem?_of_mem ha'
    obtain ⟨q, hq, rfl⟩ := List.mem_map.1 hb
    obtain ⟨i, hi⟩ := List.getElem?_of_mem hq
    rw [List.getElem?_drop] at hi
    by_cases hkK : k < K
    · obtain ⟨t, g1, g2⟩ := htk k hkK
      rw [hk] at g1
      have := mN keep hn k (K + i) _ t q.2 g1 (by rw [hi]; rfl)
      omega
    · have hkl := aE hk
      rw [htn k (by omega) (by omega)] at hk
      have := hltb q (List.mem_of_getElem? hi)
      have := Option.some.inj hk
      omega
 have hwlt : ∀ q ∈ ws, q.1 < H'.length := by
  intro q hq
  have : q.1 ∈ ws.map (·.1) := List.mem_map.2 ⟨q, hq, rfl⟩
  rw [hwm] at this
  rcases List.mem_append.1 this with h | h
  · obtain ⟨k, hk⟩ := List.getElem?_of_mem h
    by_cases hkK : k < K
    · obtain ⟨t, g1, g2⟩ := htk k hkK
      rw [hk] at g1
      have := hltb _ (List.mem_of_getElem? g1)
      simp only [Option.getD_some] at this
      omega
    · have hkl := aE hk
      rw [htn k (by omega) (by omega)] at hk
      have := Option.some.inj hk
      omega
  · obtain ⟨x, hx, e⟩ := List.mem_map.1 h
    have := hltb x (List.mem_of_mem_drop hx)
    omega
 obtain ⟨H2, hH2⟩ : ∃ H2, H2 = aO H' ws := ⟨_, rfl⟩
 have hH2l : H2.length = H'.length := by rw [hH2]; exact qV ws H' hwlt
 have tglt : ∀ {k j : Nat}, tg[k]? = some j -> j < Z.length := by
  intro k j hk
  have : j ∈ ws.map (·.1) := by rw [hwm]; exact List.mem_append.2 (.inl (List.mem_of_getElem? hk))
  obtain ⟨q, hq, rfl⟩ := List.mem_map.1 this
  have := hwlt q hq
  omega
 have hex : ∀ j : Nat, ∃ o : Option PB, (∀ k : Nat, tg[k]? = some j -> o = (Z1[k]?).getD none) /\ (j ∉ tg -> o = (Z[j]?).getD none) := by
  intro j
  by_cases hj : j ∈ tg
  · obtain ⟨k, hk⟩ := List.getElem?_of_mem hj
    exact ⟨(Z1[k]?).getD none, fun k' hk' => by rw [htinj hk hk'], fun h => (h hj).elim⟩
  · exact ⟨(Z[j]?).getD none, fun k hk => (hj (List.mem_of_getElem? hk)).elim, fun _ => rfl⟩
 obtain ⟨g, hg⟩ := Classical.axiomOfChoice hex
 obtain ⟨Z2, hπ2⟩ : ∃ Z2 : List (Option PB), Z2 = (List.range Z.length).map g := ⟨_, rfl⟩
 have ol : Z2.length = Z.length := by rw [hπ2]; simp
 have oi : ∀ {k j : Nat}, tg[k]? = some j -> Z2[j]? = some ((Z1[k]?).getD none) := by
  intro k j hk
  rw [hπ2, List.getElem?_map, List.getElem?_range (tglt hk), Option.map_some, (hg j).1 k hk]
 have oo : ∀ {j : Nat}, j ∉ tg -> Z2[j]? = Z[j]? := by
  intro j hj
  by_cases hl : j < Z.length
  · rw [hπ2, List.getElem?_map, List.getElem?_range hl, Option.map_some, (hg j).2 hj, geT hl, Option.getD_some]
  · rw [List.getElem?_eq_none (by omega), List.getElem?_eq_none (by omega)]
 have hback : ∀ (b c : Nat) (q : PB), tg[b]? = some c -> Z1[b]? = some (some q) -> Z2[c]? = some (some q) := by
  intro b c q hb hq
  rw [oi hb, hq]; rfl
 have hpre : ∀ (i : Nat) (p : PB), Z[i]? = some (some p) -> Z2[i]? = some (some p) := by
  intro i p h
  by_cases hi : i ∈ tg
  · obtain ⟨k, hk⟩ := List.getElem?_of_mem hi
    by_cases hkK : k < K
    · obtain ⟨t, g1, g2⟩ := htk k hkK
      rw [hk] at g1
      simp only [Option.getD_some] at g1
      have : Z0[k]? = some (some p) := by rw [hπ0, List.getElem?_map, g1]; simp [h]
      exact hback k i p hk (hE.pin k hkK p this)
    · have hkl := aE hk
      rw [htn k (by omega) (by omega)] at hk
      obtain rfl := Option.some.inj hk
      exact (hπ _ (by omega) (by omega) p h).elim
  · rw [oo hi]; exact h
 have key : ∀ (j : Nat) (x : Blk) (p : PB), H2[j]? = some x -> x.isLive = true -> Z2[j]? = some (some p) ->
   (j ∉ keep.map (·.1) /\ H'[j]? = some x /\ Z[j]? = some (some p)) \/ ∃ (k : Nat) (t : Bool) (y : Blk), tg[k]? = some j /\ ts[k]? = some t /\ H1[k]? = some y /\ x = rfB (fun k => tg[k]?) t y /\ Z1[k]? = some (some p) := by
  intro j x p h1 h2 h3
  by_cases hj : ∃ b, (j, b) ∈ ws
  · obtain ⟨b, hb⟩ := hj
    have e := sf ws H' j b hwlt hwnd hb
    rw [<- hH2, h1] at e
    cases e
    rw [hws'] at hb
    rcases List.mem_append.1 hb with hb | hb
    · obtain ⟨k, t, y, g1, g2, g3, g4⟩ := tZ _ _ _ _ _ _ hb
      refine .inr ⟨k, t, y, g1, g2, g3, g4, ?_⟩
      rw [oi g1] at h3
      cases hk : Z1[k]? with
      | none => rw [hk] at h3; cases h3
      | some q => rw [hk] at h3; simpa using h3
    · have := sS _ _ _ hb
      subst this
      cases h2
  · have hj : ∀ b, (j, b) ∉ ws := fun b hb => hj ⟨b, hb⟩
    rw [hH2, nR ws H' j hwlt hj] at h1
    have hjm : j ∉ ws.map (·.1) := fun hm => by
     obtain ⟨q, hq, rfl⟩ := List.mem_map.1 hm
     exact hj q.2 hq
    rw [hwm] at hjm
    have hjt : j ∉ tg := fun h => hjm (List.mem_append.2 (.inl h))
    have hjd : j ∉ (keep.drop K).map (·.1) := fun h => hjm (List.mem_append.2 (.inr h))
    refine .inl ⟨fun hm => ?_, h1, ?_⟩
    · obtain ⟨q, hq, rfl⟩ := List.mem_map.1 hm
      obtain ⟨i, hi⟩ := List.getElem?_of_mem hq
      by_cases hiK : i < K
      · obtain ⟨t, g1, g2⟩ := htk i hiK
        rw [hi] at g1
        have e : q.1 = tg[i]?.getD 0 := by rw [Option.some.inj g1]
        rw [<- e] at g2
        exact hjt (List.mem_of_getElem? g2)
      · refine hjd (List.mem_map.2 ⟨q, ?_, rfl⟩)
        refine List.mem_of_getElem? (i := i - K) ?_
        rw [List.getElem?_drop, show K + (i - K) = i by omega]; exact hi
    · rw [oo hjt] at h3; exact h3
 have hmu2 : ∀ b, aH out Z2 H2 b -> aH out0 Z1 H1 b := by
  rintro b (h | ⟨i, x, p, h1, h2, h3, h4⟩)
  · exact .inl (by rw [hout0]; exact .inl h)
  · rcases key i x p h1 (Blk.bS h2) h3 with ⟨g1, g2, g3⟩ | ⟨k, t, y, g1, g2, g3, g4, g5⟩
    · exact .inl (by rw [hout0]; exact .inr ⟨i, x, p, g2, h2, g1, g3, h4⟩)
    · exact .inr ⟨k, y, p, g3, lG (by rw [<- g4]; exact h2), g5, dR (by rw [<- g4]; exact h4)⟩
 have hExt : Ext B w w' (aH out Z H') (aH out Z2 H2) Z Z2 := by
  refine ⟨fun b hb => hE.low b (hB0 b hb), hE.size, fun b hb hnb => ?_, hpre, hE.os, hE.tape, hE.output, hE.drawn⟩
  obtain ⟨k1, k2⟩ := hE.keep b hb (fun h => hnb (hmu b h))
  exact ⟨k1, fun h => k2 (hmu2 b h)⟩
 have calleeB : ∀ {k : Nat} {y : Blk} {p : PB} {c : Nat}, H1[k]? = some y -> Z1[k]? = some (some p) -> y.owns p c -> w.heap.size <= c \/ ∃ (b : Nat) (z : Blk) (q : PB), b ∈ keep.map (·.1) /\ H'[b]? = some z /\ Z[b]? = some (some q) /\ z.owns q c := by
  intro k y p c h1 h2 h3
  have hnq := (hI1.baseO k y p c h1 h2 h3).1
  rw [hQ0] at hnq
  by_cases hlt : c < w.heap.size
  · right
    have hnq : ∃ (k : Nat) (x : Blk) (q : PB), (rnH H' keep keep)[k]? = some x /\ x.isLive = true /\ Z0[k]? = some (some q) /\ x.owns q c := Classical.byContradiction fun hc => hnq ⟨hlt, hc⟩
    obtain ⟨k', x, q, e1, e2, e3, e4⟩ := hnq
    obtain ⟨b, t, z, g1, g2, g3, g4⟩ := back e1 e2 e3
    exact ⟨b, z, q, isin g1, g2, g4, dR (by rw [g3]; exact e4)⟩
  · exact .inl (by omega)
 have same : ∀ {i : Nat} {x : Blk} {p : PB} {c : Nat}, i ∉ keep.map (·.1) -> H'[i]? = some x -> Z[i]? = some (some p) -> x.owns p c -> w'.heap[c]? = w.heap[c]? := by
  intro i x p c h0 h1 h2 h3
  by_cases hm : x.eh = true
  · exact hE.low _ (hI0.out_lt _ (by rw [hout0]; exact .inr ⟨i, x, p, h1, hm, h0, h2, h3⟩))
  · refine (hE.keep c (hI.baseO i x p c h1 h2 h3).2 (fun h => ?_)).1
    rcases hmu _ h with ho | ⟨j, y, q, g1, g2, g3, g4⟩
    · exact (hI.baseO i x p c h1 h2 h3).1 (hI.out_lt _ ho)
    · by_cases hji : j = i
      · subst hji; rw [h1] at g1; cases g1; exact hm g2
      · exact hI.sepO j i y x q p c hji g1 h1 g3 h2 g2 g4 h3
 refine ⟨u, Z2, rfl, ?_, ?_, ?_, ?_⟩
 · rw [<- hH2]; exact hExt
 · rw [<- hH2]
   refine ⟨by rw [ol, hH2l, hl], fun b hb => Nat.lt_of_lt_of_le (hI.bound b hb) hE.size, hI.out_lt, ?_, ?_, ?_⟩
   · intro i x p c h1 h2 h3
     rcases key i x p h1 (Blk.cU h3) h2 with ⟨g1, g2, g3⟩ | ⟨k, t, y, g1, g2, g3, g4, g5⟩
     · have := hI.baseO i x p c g2 g3 h3
       exact ⟨this.1, Nat.lt_of_lt_of_le this.2 hE.size⟩
     · have hyl : y.owns p c := dR (by rw [<- g4]; exact h3)
       exact ⟨fun hb => (hI1.baseO k y p c g3 g5 hyl).1 (hB0 _ hb), (hI1.baseO k y p c g3 g5 hyl).2⟩
   · intro i x p h1 h2
     cases hx : x.isLive with
     | false => exact cS.qt hx
     | true =>
      rcases key i x p h1 hx h2 with ⟨g1, g2, g3⟩ | ⟨k, t, y, g1, g2, g3, g4, g5⟩
      · exact cS.ext hExt (fun c hc => same g1 g2 g3 hc) (hI.ok i x p g2 g3)
      · subst g4
        exact vT hmu2 hback (fun ht => by subst ht; exact pt ts H1 k y hpt g2 g3) (hI1.ok k y p g3 g5)
   · intro i j x y p q c hij h1 h2 h3 h4 h5 h6 h7
     rcases key i x p h1 (Blk.bS h5) h3 with ⟨g1, g2, g3⟩ | ⟨k, t, z, g1, g2, g3, g4, g5⟩
     · rcases key j y q h2 (Blk.cU h7) h4 with ⟨k1, k2, k3⟩ | ⟨k', t', z', k1, k2, k3, k4, k5⟩
       · exact hI.sepO i j x y p q c hij g2 k2 g3 k3 h5 h6 h7
       · have hzl : z'.owns q c := dR (by rw [<- k4]; exact h7)
         refine (hI1.baseO k' z' q c k3 k5 hzl).1 (hI1.out_lt _ ?_)
         rw [hout0]; exact .inr ⟨i, x, p, g2, h5, g1, g3, h6⟩
     · have hzm : z.eh = true := lG (by rw [<- g4]; exact h5)
       have hzo : z.owns p c := dR (by rw [<- g4]; exact h6)
       rcases key j y q h2 (Blk.cU h7) h4 with ⟨k1, k2, k3⟩ | ⟨k', t', z', k1, k2, k3, k4, k5⟩
       · have hqlt := (hI.baseO j y q c k2 k3 h7).2
         rcases calleeB g3 g5 hzo with hge | ⟨b, z2, q2, f1, f2, f3, f4⟩
         · omega
         · have hne : b ≠ j := fun e => k1 (e ▸ f1)
           by_cases hm0 : aH out0 Z0 (rnH H' keep keep) c
           · rcases hm0 with ho | ⟨k2', x2, p2, e1, e2, e3, e4⟩
             · exact (hI1.baseO k z p c g3 g5 hzo).1 (hI1.out_lt _ ho)
             · obtain ⟨b', t2, y2, m1, m2, m3, m4⟩ := back e1 (Blk.bS e2) e3
               have hb'j : b' ≠ j := fun e => k1 (e ▸ isin m1)
               exact hI.sepO b' j y2 y p2 q c hb'j m2 k2 m4 k3 (lG (by rw [m3]; exact e2)) (dR (by rw [m3]; exact e4)) h7
           · exact (hE.keep c (by omega) hm0).2 (.inr ⟨k, z, p, g3, hzm, g5, hzo⟩)
       · have hkk : k ≠ k' := by
          rintro rfl
          rw [g1] at k1
          exact hij (Option.some.inj k1)
         exact hI1.sepO k k' z z' p q c hkk g3 k3 g5 k5 hzm hzo (dR (by rw [<- k4]; exact h7))
 · rw [<- hH2, <- hv]
   exact qI hmu2 hback r u hr
 · intro j hj
   have hjm : j ∉ tg := fun hm => by
    have : j ∈ ws.map (·.1) := by rw [hwm]; exact List.mem_append.2 (.inl hm)
    obtain ⟨q, hq, rfl⟩ := List.mem_map.1 this
    exact hj q.2 hq
   exact oo hjm
def wZ : Option Blk -> Nat
 | some .dead => 0
 | some (.own _) => 1
 | some (.fix _) => 2
 | some (.map _) => 3
 | some (.iter ..) => 5
 | some (.rows _) => 6
 | some (.mapr ..) => 7
 | none => 4
theorem tH {e : CE} {L : List CE} {f : FuncId} {args : List AV} {H : List Blk} {r : qe} (i a b : Nat) (h1 : wZ H[i]? = a) (h2 : wZ e.H[i]? = b) (hab : a ≠ b) (h : cw L f args H = some r) : cw (e :: L) f args H = some r := by
 simp only [cw]
 split
 · rename_i hk; exact (hab (by rw [<- h1, <- h2, hk.2.2])).elim
 · exact h
end Go.Eng


set_option linter.unusedVariables false
namespace Go.Eng
open Go Go.RowKit
variable [Dr]
noncomputable def oE (P : Program) (call : dN) (ops l : List Oper) (s : List AV) (h : List Blk) : St := match e9 P call ops l ⟨s, h⟩ with | some st => st | none => ⟨s, h⟩
noncomputable def uG (P : Program) (call : dN) (ops l : List Oper) (s : List AV) (h : List Blk) : Bool := match e9 P call ops l ⟨s, h⟩ with | some _ => true | none => false
theorem vp {P : Program} {call : dN} {ops l : List Oper} {s : List AV} {h : List Blk} (e : uG P call ops l s h = true) : e9 P call ops l ⟨s, h⟩ = some (oE P call ops l s h) := by
 unfold uG at e
 unfold oE
 split at e
 · rename_i st hst; rw [hst]
 · cases e
section
variable {P : Program} {call : dN} {ops l : List Oper} {s : List AV} {h : List Blk} {K : List AV -> List Blk -> Prop} {KT : List AV -> List Blk -> List Ent -> Prop}
theorem EVO.mu (n : Nat) (hk : EVO P call ops (l.drop n) (oE P call ops (l.take n) s h).slots (oE P call ops (l.take n) s h).heap K) (e : uG P call ops (l.take n) s h = true := by kernel_rfl) : EVO P call ops l s h K := by
 have := EVO.many (l1 := l.take n) (l2 := l.drop n) (s1 := (oE P call ops (l.take n) s h).slots) (h1 := (oE P call ops (l.take n) s h).heap) (by rw [vp e]) hk
 rwa [List.take_append_drop] at this
noncomputable def xK (P : Program) (call : dN) (ops l : List Oper) (s : List AV) (h : List Blk) : St := match dY P call ops l ⟨s, h⟩ with | some (st, _) => st | none => ⟨s, h⟩
noncomputable def BB (P : Program) (call : dN) (ops l : List Oper) (s : List AV) (h : List Blk) : Bool := match dY P call ops l ⟨s, h⟩ with | some _ => true | none => false
theorem EVT.mu (n : Nat) (hk : EVT P call ops (l.drop n) (xK P call ops (l.take n) s h).slots (xK P call ops (l.take n) s h).heap (fun s' h' es => KT s' h' (zL P call ops (l.take n) s h ++ es))) (e : BB P call ops (l.take n) s h = true := by kernel_rfl) : EVT P call ops l s h KT := by
 have := EVT.many (l1 := l.take n) (l2 := l.drop n) (s1 := (xK P call ops (l.take n) s h).slots) (h1 := (xK P call ops (l.take n) s h).heap) (by
  unfold BB at e
  unfold xK
  split at e
  · rename_i st hst; rw [hst]
  · cases e) hk
 rwa [List.take_append_drop] at this
end
section
variable {P : Program} {K : Nat} {k : List Fr} {F : X -> St -> Prop} {d : Code} {i : Nat} {l : List Oper} {s : List AV} {h : List Blk}
theorem CQ.ru (G : lH P) (hk : CQ K P k F .normal ⟨(oE P (cw []) l l s h).slots, (oE P (cw []) l l s h).heap⟩) (e : uG P (cw []) l l s h = true := by kernel_rfl) : CQ K P (.c (.region i l.toArray false) :: k) F .normal ⟨s, h⟩ :=
 CQ.region G aK ⟨_, vp e, hk⟩
noncomputable def vz (P : Program) (l : List Oper) (s : List AV) (h : List Blk) (keep : List Nat) : Option St := match e9 P (cw []) l l ⟨s, h⟩ with | some st => some ⟨lv keep st.slots 0, st.heap⟩ | none => none
theorem CQ.rn (G : lH P) (keep : List Nat) (s' : List AV) (h' : List Blk) (hk : CQ K P (.c d :: k) F .normal ⟨s', h'⟩) (e : vz P l s h keep = some ⟨s', h'⟩ := by kernel_rfl) : CQ K P (.c (.region i l.toArray false) :: .c d :: k) F .normal ⟨s, h⟩ := by
 unfold vz at e
 split at e
 · rename_i st hst
   obtain ⟨s1, h1⟩ := st
   exact CQ.region G aK ⟨_, hst, CQ.wk ((Wk.mask keep).to (Option.some.inj e)) hk⟩
 · cases e
theorem CQ.g1 (G : lH P) {f : FuncId} {args : List AV} {r : qe} (c : ik P f args h r) (he : EVO P (cw [{ f := f, args := args, H := h, r := r : CE }]) l l s h (fun s' h' => CQ K P k F .normal ⟨s', h'⟩)) : CQ K P (.c (.region i l.toArray false) :: k) F .normal ⟨s, h⟩ := CQ.region G (q9 c) he
theorem CQ.t1 (G : lH P) {f : FuncId} {args : List AV} {r : qe} (c : ik P f args h r) (he : EVT P (cw [{ f := f, args := args, H := h, r := r : CE }]) l l s h (fun s' h' es => pB l es = true /\ CQ K P k F .normal ⟨s', h'⟩)) : CQ K P (.c (.region i l.toArray true) :: k) F .normal ⟨s, h⟩ := CQ.ba G (q9 c) he
end
theorem kq {P : Program} {f : FuncId} {args : List AV} {H : List Blk} {r : qe} {L : List CE} (c : ik P f args H r) (cs : gL P (cw L)) : gL P (cw ({ f := f, args := args, H := H, r := r : CE } :: L)) := fun g a H' r' e => by
 simp only [cw] at e
 split at e
 · rename_i hk
   cases e
   obtain ⟨rfl, rfl, rfl⟩ := hk
   exact c
 · exact cs g a H' r' e
theorem aT {P : Program} {f : FuncId} {args args0 : List AV} {H H0 H1 : List Blk} {r : AV} (K m : Nat) (keep : List (Nat × Bool)) (ts : List Bool) (hrun : bx K P f args0 H0 r H1)
  (hpure : gu H keep) (hpt : uc ts H1) (hlen1 : H1.length = K + m) (hlent : ts.length = H1.length)
  (hargs : rnL keep args = args0) (hH : rnH H keep keep = H0)
  (hn : mq keep = true := by kernel_rfl) (hlt : keep.all (fun q => Nat.blt q.1 H.length) = true := by kernel_rfl) (hK : Nat.ble K keep.length = true := by kernel_rfl) :
  ik P f args H (.loc (rfA (fun k => (tM K keep H.length m)[k]?) r) (yN K keep H.length m ts H1) (keep.map (·.1)) m) :=
 vX K keep ts hrun hpure hpt hlen1 hlent hn hlt hK hargs hH rfl rfl rfl
theorem pKo {H : List Blk} {b : Nat} {l : List (Nat × Bool)} {α : Type} (c : α -> List AV) (hc : ∀ x, cn (c x) = []) (e : List α) (rest : gu H l) (hb : H[b]? = some (.own (e.flatMap c)) := by kernel_rfl) : gu H ((b, false) :: l) :=
 ⟨by rw [hb]; exact aA hc e, rest⟩
def Dd : Option Blk -> List Nat
 | some (.own cs) => cn cs
 | some (.fix cs) => cn cs
 | some (.map es) => j5 es
 | some (.iter ..) => [0]
 | some (.rows rs) => iG rs
 | some (.mapr _ _ l) => iG (l.map (·.2))
 | _ => []
theorem pKc {H : List Blk} {b : Nat} {l : List (Nat × Bool)} (rest : gu H l) (hb : Dd H[b]? = [] := by kernel_rfl) : gu H ((b, false) :: l) := by
 refine ⟨?_, rest⟩
 generalize H[b]? = o at *
 cases o with
 | none => trivial
 | some x => cases x <;> first | exact hb | trivial | (simp [Dd] at hb; done)
theorem pKt {H : List Blk} {b : Nat} {l : List (Nat × Bool)} (rest : gu H l) : gu H ((b, true) :: l) := rest
theorem pK0 {H : List Blk} : gu H [] := trivial
def slH (b e : Bool) (lo hi : Nat) (f : Nat -> Nat -> AV) : Option bc := bc.ofP (match (match b with | true => some (lo, hi) | false => none), e with | some (l, h), true => some (f l h) | _, _ => none)
theorem r7 {b : Bool} {lo hi : Nat} {f : Nat -> Nat -> AV} {v : AV} (h : b = true) (hv : f lo hi = v) : slH b true lo hi f = some (.pure v) := by subst h; subst hv; rfl
theorem Wk.cut (b : Nat) {K : Nat} {cs : List AV} {s : List AV} {h : List Blk} (m : Nat) (hb : h[b]? = some (.own cs)) : Wk K ⟨s, h⟩ ⟨s, h.set b (.own (cs.take m))⟩ := fun out B w Z a hR => by
 have hI := hR.inv
 have hil := aE hb
 have g : ∀ {k : Nat} {x : Blk}, (h.set b (.own (cs.take m)))[k]? = some x -> (k = b /\ x = .own (cs.take m)) \/ (k ≠ b /\ h[k]? = some x) := by
  intro k x hk
  by_cases hki : k = b
  · subst hki
    rw [List.getElem?_set_self hil] at hk
    exact .inl ⟨rfl, (Option.some.inj hk).symm⟩
  · rw [List.getElem?_set_ne (fun e => hki e.symm)] at hk
    exact .inr ⟨hki, hk⟩
 have old : ∀ {k : Nat} {x : Blk}, (h.set b (.own (cs.take m)))[k]? = some x -> ∃ y, h[k]? = some y /\ y.isLive = x.isLive /\ y.eh = x.eh /\ (∀ p b, x.owns p b -> y.owns p b) := by
  intro k x hk
  rcases g hk with ⟨rfl, rfl⟩ | ⟨_, hk⟩
  · exact ⟨_, hb, rfl, rfl, fun _ _ h => h⟩
  · exact ⟨x, hk, rfl, rfl, fun _ _ h => h⟩
 have hmu : aH out Z (h.set b (.own (cs.take m))) = aH out Z h := by
  funext c
  apply propext
  constructor
  · rintro (hb | ⟨k, x, p, h1, h2, h3, h4⟩)
    · exact .inl hb
    · obtain ⟨y, y1, _, y3, y4⟩ := old h1
      exact .inr ⟨k, y, p, y1, by rw [y3]; exact h2, h3, y4 _ _ h4⟩
  · rintro (hb' | ⟨k, x, p, h1, h2, h3, h4⟩)
    · exact .inl hb'
    · by_cases hki : k = b
      · subst hki
        rw [hb] at h1; cases h1
        exact .inr ⟨k, .own (cs.take m), p, List.getElem?_set_self hil, rfl, h3, h4⟩
      · exact .inr ⟨k, x, p, by rw [List.getElem?_set_ne (fun e => hki e.symm)]; exact h1, h2, h3, h4⟩
 refine ⟨Z, ⟨hR.defers, ?_, ?_⟩, fun b hb => ?_, jX.refl Z⟩
 · simp only [hmu]; exact hR.slots
 · refine ⟨by simpa using hI.len, hI.bound, hI.out_lt, ?_, ?_, ?_⟩
   · intro k x p b h1 h2 h3
     obtain ⟨y, y1, _, _, y4⟩ := old h1
     exact hI.baseO k y p b y1 h2 (y4 _ _ h3)
   · intro k x p h1 h2
     simp only [hmu]
     rcases g h1 with ⟨rfl, rfl⟩ | ⟨_, hk⟩
     · obtain ⟨o1, o2⟩ := hI.ok k _ p hb h2
       exact ⟨o1, RvC.take m cs _ _ o2⟩
     · exact hI.ok k x p hk h2
   · intro k l x y p q b hkl h1 h2 h3 h4 h5 h6 h7
     obtain ⟨x', x1, _, x3, x4⟩ := old h1
     obtain ⟨y', y1, _, _, y4⟩ := old h2
     exact hI.sepO k l x' y' p q b hkl x1 y1 h3 h4 (by rw [x3]; exact h5) (x4 _ _ h6) (y4 _ _ h7)
 · rw [hmu] at hb; exact hb
theorem Wk.Cu (i b : Nat) {K : Nat} {α : Type} {c : α -> List AV} {es : Nat} (hc : ∀ x, (c x).length = es) (l : List α) (k : Nat) {s : List AV} {h : List Blk} (hk : k <= l.length) (hs : ox s i = .hs b 0 k es) (hb : h[b]? = some (.own (l.flatMap c))) :
  Wk K ⟨s, h⟩ ⟨s.set i (.hs b 0 (l.take k).length es), h.set b (.own ((l.take k).flatMap c))⟩ :=
 ((Wk.cut b (k * es) hb).to (by rw [mM hc])).trans (Wk.eG i (b := b) (len := k) (es := es) (l.take k).length hs (by rw [List.length_take]; omega))
theorem Wk.DB (i j b : Nat) {K : Nat} {α : Type} {c : α -> List AV} {es : Nat} (hc : ∀ x, (c x).length = es) (l : List α) (k : Nat) {s : List AV} {h : List Blk} {cs : List AV} (hk : k <= l.length) (hib : i ≠ b) (hi : h[i]? = some (.own cs)) (hs : cs[j]? = some (.hs b 0 k es)) (hb : h[b]? = some (.own (l.flatMap c))) :
  Wk K ⟨s, h⟩ ⟨s, (h.set b (.own ((l.take k).flatMap c))).set i (.own (cs.set j (.hs b 0 (l.take k).length es)))⟩ :=
 ((Wk.cut b (k * es) hb).to (by rw [mM hc])).trans (Wk.qG i j (b := b) (len := k) (es := es) (l.take k).length (by rw [List.getElem?_set_ne (fun e => hib e.symm)]; exact hi) hs (by rw [List.length_take]; omega))
theorem SnC.take {H : List Blk} {ok : Nat -> Bool} {A A' : List AV} (n : Nat) (h : SnC H ok A A') : SnC H ok A (A'.take n) := fun w mu mu' Z b o hL hm hv => RvC.take n _ _ _ (h w mu mu' Z b o hL hm hv)
attribute [irreducible] oE uG vz xK BB
end Go.Eng


set_option linter.unusedVariables false
namespace Go.Eng
open Go Go.RowKit
variable [Dr]
section
variable {P : Program} {call : dN} {ops rest : List Oper} {o : Oper} {s : List AV} {h : List Blk} {K : List AV -> List Blk -> Prop} {KT : List AV -> List Blk -> List Ent -> Prop} {v : AV} {ws : List (Nat × Blk)} {f : FuncId} {args : List AV} {rd : List Nat} {n : Nat}
theorem EVO.ca (hc : call f args h = some (.loc v ws rd n)) (hk : EVO P call ops rest (eS s o.dst v) (aO (h ++ ft n) ws) K) (hw : cE ops o s = some true := by kernel_rfl) (he : evalOp P (evA s) h h.length o = some (.call f args) := by kernel_rfl) : EVO P call ops (o :: rest) s h K := EVO.cal hw he hc hk
theorem EVT.ca (hc : call f args h = some (.loc v ws rd n)) (hk : EVT P call ops rest (eS s o.dst v) (aO (h ++ ft n) ws) (fun s' h' es => KT s' h' (yj o h v ws rd n :: es))) (hw : cE ops o s = some true := by kernel_rfl) (he : evalOp P (evA s) h h.length o = some (.call f args) := by kernel_rfl) (hok : jC h.length (yj o h v ws rd n) = true := by kernel_rfl) : EVT P call ops (o :: rest) s h KT := EVT.cal hw he hc hok hk
end
def kr (P : Program) (h : List Blk) (F : dN) : Prop := gL P F
section
variable {P : Program} {h H : List Blk} {f : FuncId} {args : List AV} {r : qe} {L : List CE}
theorem ca1 (c : ik P f args h r) (cs : kr P h (cw L)) : kr P h (cw ({ f := f, args := args, H := h, r := r : CE } :: L)) := kq c cs
theorem ca2 (H : List Blk) (c : ik P f args H r) (cs : kr P h (cw L)) : kr P h (cw ({ f := f, args := args, H := H, r := r : CE } :: L)) := kq c cs
theorem ca3 (c : ik P f args h r) : kr P h (cw [{ f := f, args := args, H := h, r := r : CE }]) := kq c aK
theorem ca4 (H : List Blk) (c : ik P f args H r) : kr P h (cw [{ f := f, args := args, H := H, r := r : CE }]) := kq c aK
variable {K : Nat} {k : List Fr} {F : X -> St -> Prop} {i : Nat} {l : List Oper} {s : List AV}
theorem CQ.gn (G : lH P) {L : List CE} (c : kr P h (cw L)) (he : EVO P (cw L) l l s h (fun s' h' => CQ K P k F .normal ⟨s', h'⟩)) : CQ K P (.c (.region i l.toArray false) :: k) F .normal ⟨s, h⟩ := CQ.region G c he
theorem CQ.tn (G : lH P) {L : List CE} (c : kr P h (cw L)) (he : EVT P (cw L) l l s h (fun s' h' es => pB l es = true /\ CQ K P k F .normal ⟨s', h'⟩)) : CQ K P (.c (.region i l.toArray true) :: k) F .normal ⟨s, h⟩ := CQ.ba G c he
theorem ok0 {r : AV} (hrun : bo P f args r) (hp : cn args = [] := by kernel_rfl) : ik P f args H (.loc r [] [] 0) := gw (l := []) (SnL.pure hp) hrun
theorem cf0 {e : CE} (hH : H = e.H := by kernel_rfl) : cw (e :: L) e.f e.args H = some e.r := xu hH
theorem cfF {e : CE} (h' : cw L f args H = some r) (hn : Nat.beq f e.f = false := by kernel_rfl) : cw (e :: L) f args H = some r := pN (fun h _ => absurd h (fun x => by rw [show Nat.beq f e.f = true from by rw [x]; exact Nat.beq_refl _] at hn; cases hn)) h'
theorem cfA {e : CE} (hne : args = e.args -> r = e.r) (h' : cw L f args H = some r) : cw (e :: L) f args H = some r := pN (fun _ h => hne h) h'
theorem cfH {e : CE} (i a b : Nat) (h' : cw L f args H = some r) (h1 : wZ H[i]? = a := by kernel_rfl) (h2 : wZ e.H[i]? = b := by kernel_rfl) (hab : Nat.beq a b = false := by kernel_rfl) : cw (e :: L) f args H = some r := tH i a b h1 h2 (fun x => by rw [x, Nat.beq_refl] at hab; cases hab) h'
end
theorem sv {α : Type} {p q : Option α} {a b : α} (hp : p = some a) (hq : q = some b) (e : p = q) : a = b := Option.some.inj (hp.symm.trans (e.trans hq))
section
variable {P : Program} {K : Nat} {k : List Fr} {F : X -> St -> Prop} {d : Code} {i : Nat} {l : List Oper} {s : List AV} {h : List Blk}
theorem CQ.n2 (m : Nat) (q : List (Nat × AV)) (h' : List Blk) (hk : CQ K P (.c d :: k) F .normal ⟨mkS m 0 q, h'⟩) (e : lv (q.map (·.1)) s 0 = mkS m 0 q := by kernel_rfl) (e2 : h = h' := by kernel_rfl) : CQ K P (.c d :: k) F .normal ⟨s, h⟩ := CQ.norm _ e e2 hk
theorem CQ.r2 (G : lH P) (m : Nat) (q : List (Nat × AV)) (h' : List Blk) (hk : CQ K P (.c d :: k) F .normal ⟨mkS m 0 q, h'⟩) (e : vz P l s h (q.map (·.1)) = some ⟨mkS m 0 q, h'⟩ := by kernel_rfl) : CQ K P (.c (.region i l.toArray false) :: .c d :: k) F .normal ⟨s, h⟩ := CQ.rn G _ _ _ hk e
theorem CQ.r3 (G : lH P) (m : Nat) (q : List (Nat × AV)) (hk : CQ K P (.c d :: k) F .normal ⟨mkS m 0 q, h⟩) (e : vz P l s h (q.map (·.1)) = some ⟨mkS m 0 q, h⟩ := by kernel_rfl) : CQ K P (.c (.region i l.toArray false) :: .c d :: k) F .normal ⟨s, h⟩ := CQ.rn G _ _ _ hk e
end
section
variable {α β : Type} {γ : Type} {δ : Type}
theorem bd2 {x : Option α} {y : α -> Option β} {f : (a : α) -> β -> Option γ} {r : γ} (h : bdO x (fun a => bdO (y a) (f a)) = some r) : ∃ a, x = some a /\ ∃ b, y a = some b /\ f a b = some r := by
 obtain ⟨a, h1, h⟩ := bd h; obtain ⟨b, h2, h⟩ := bd h; exact ⟨a, h1, b, h2, h⟩
theorem bd3 {x : Option α} {y : α -> Option β} {z : α -> β -> Option γ} {f : (a : α) -> (b : β) -> γ -> Option δ} {r : δ} (h : bdO x (fun a => bdO (y a) (fun b => bdO (z a b) (f a b))) = some r) : ∃ a, x = some a /\ ∃ b, y a = some b /\ ∃ c, z a b = some c /\ f a b c = some r := by
 obtain ⟨a, h1, b, h2, h⟩ := bd2 h; obtain ⟨c, h3, h⟩ := bd h; exact ⟨a, h1, b, h2, c, h3, h⟩
theorem gd2 {a b : Bool} {t : Option α} {r : α} (h : gdO a (gdO b t) = some r) : a = true /\ b = true /\ t = some r := by
 obtain ⟨h1, h⟩ := gd h; exact ⟨h1, gd h⟩
theorem gd3 {a b c : Bool} {t : Option α} {r : α} (h : gdO a (gdO b (gdO c t)) = some r) : a = true /\ b = true /\ c = true /\ t = some r := by
 obtain ⟨h1, h⟩ := gd h; exact ⟨h1, gd2 h⟩
end
theorem bo.bd {P : Program} (G : lH P) {f : FuncId} {fn : Func} (hf : P.funcs[f]? = some fn) {args : List AV} {r : AV} (rs : List ResultVar)
  (h : CQ 0 P [.c (fn.body.getD .skip)] (aS P rs r) .normal ⟨args ++ oO (fn.ntmps - args.length), []⟩) (hb : fn.body.isSome = true := by kernel_rfl) (hrs : fn.results.toList = rs := by kernel_rfl) : bo P f args r :=
 bo.body G hf (c := fn.body.getD .skip) (by cases h1 : fn.body with | none => rw [h1] at hb; cases hb | some c => rfl) rfl hrs h
theorem CQ.cd {P : Program} {K : Nat} {k : List Fr} {F : X -> St -> Prop} {st : St} {c : Operand} {a b : Code} {α : Type} {t : Bool} {x y : Option α} {r : α} (hr : cdO t x y = some r)
  (h1 : t = true -> x = some r -> CQ K P (.c a :: k) F .normal st) (h2 : t = false -> y = some r -> CQ K P (.c b :: k) F .normal st) (hv : evA st.slots c = .at (.bool t) := by kernel_rfl) : CQ K P (.c (.cond c a b) :: k) F .normal st :=
 CQ.cond hv (fun h => h1 h (cB h hr)) (fun h => h2 h (cC h hr))
theorem CQ.app {P : Program} {K : Nat} {k2 : List Fr} {F Q : X -> St -> Prop} (ha : ∀ x st', Q x st' -> CQ K P k2 F x st') : ∀ (k1 : List Fr) {x : X} {st : St}, CQ K P k1 Q x st -> CQ K P (k1 ++ k2) F x st
 | [], _, _, h => ha _ _ h
 | .c d :: k1, .normal, st, h => SC.mono (show SC K P st d (CQ K P k1 Q) from h) fun x st' h' => CQ.app ha k1 h'
 | .c d :: k1, .exit j, st, h => CQ.app ha k1 (x := .exit j) h
 | .c d :: k1, .ret, st, h => CQ.app ha k1 (x := .ret) h
 | .b i :: k1, .normal, st, h => CQ.app ha k1 (x := .normal) h
 | .b i :: k1, .ret, st, h => CQ.app ha k1 (x := .ret) h
 | .b i :: k1, .exit j, st, h => by
  simp only [CQ, List.cons_append] at h ⊢
  split at h
  · exact CQ.app ha k1 h
  · exact CQ.app ha k1 h
theorem CQ.xt {P : Program} {K : Nat} {k : List Fr} {F Q : X -> St -> Prop} {st : St} {a : Code} (h : CQ K P [.c a] Q .normal st) (ha : ∀ x st', Q x st' -> CQ K P k F x st') : CQ K P (.c a :: k) F .normal st := CQ.app ha [.c a] h
theorem CQ.Bp {P : Program} {K : Nat} {k : List Fr} {F Q : X -> St -> Prop} {st : St} {a b : Code} (h : CQ K P [.c a, .c b] Q .normal st) (ha : ∀ x st', Q x st' -> CQ K P k F x st') : CQ K P (.c a :: .c b :: k) F .normal st := CQ.app ha [.c a, .c b] h
abbrev nS : AV := .at (.slice none 0 0)
def fZ {α : Type} (l : List α) (a : Nat) (ys : List α) : List α := (l.take a ++ ys ++ l.drop (a + ys.length)).take l.length
@[simp] theorem pe {α : Type} (l : List α) (a : Nat) (ys : List α) : (fZ l a ys).length = l.length := by
 unfold fZ
 simp only [List.length_take, List.length_append, List.length_drop]
 omega
theorem uD {α : Type} {l : List α} {a : Nat} {ys : List α} (h : a + ys.length <= l.length) : fZ l a ys = l.take a ++ ys ++ l.drop (a + ys.length) := by
 unfold fZ
 refine List.take_of_length_le ?_
 simp only [List.length_take, List.length_append, List.length_drop]
 omega
theorem pM : ∀ (xs cs : List AV) (off : Nat), off + xs.length <= cs.length -> setCells cs off xs = cs.take off ++ xs ++ cs.drop (off + xs.length)
 | [], cs, off, _ => by simp [setCells]
 | x :: xs, cs, off, h => by
  have hl : off < cs.length := by simp at h; omega
  rw [setCells, pM xs (cs.set off x) (off + 1) (by simp at h ⊢; omega)]
  rw [List.take_set, List.drop_set_of_lt (by omega), List.take_add_one, geT hl]
  have e : (cs.take off ++ (some cs[off]).toList).set off x = cs.take off ++ [x] := by
   have : (cs.take off).length = off := by rw [List.length_take]; omega
   rw [List.set_append_right _ _ (by omega), this]; simp
  rw [e]
  simp [List.append_assoc, Nat.add_assoc, Nat.add_comm 1]
def clS (g : Bool) (b : Nat) (cs : List AV) : Option bc := match g with | true => some (.eff (.at (.tuple #[])) [(b, .own cs)]) | false => none
theorem Ck {α : Type} {c : α -> List AV} {es : Nat} (hc : ∀ x, (c x).length = es) {l : List α} {z : α} {zc : List AV} {b len off a : Nat} (hz : zc = c z) (hoff : off = a * es) (hl : a + len <= l.length) :
  clS (true && decide (off + len * es <= (l.flatMap c).length) && true && true && true) b (setCells (l.flatMap c) off (cN zc len)) = some (.eff (.at (.tuple #[])) [(b, .own ((fZ l a (List.replicate len z)).flatMap c))]) := by
 subst hoff; subst hz
 have h1 : a * es + len * es <= (l.flatMap c).length := by rw [gR hc, <- Nat.add_mul]; exact Nat.mul_le_mul_right _ hl
 have hy : (List.replicate len z).length = len := List.length_replicate
 unfold clS
 simp only [decide_eq_true h1]
 rw [nc, pM _ _ _ (by rw [gR hc, hy]; exact h1), uD (by rw [hy]; exact hl)]
 rw [gR hc, hy, mM hc, <- Nat.add_mul, oY hc, List.flatMap_append, List.flatMap_append]
 rfl
theorem yG {lo : Int} {n : Nat} (h : inS lo (n : Int) n = true) : lo.toNat + (n - lo.toNat) <= n := by
 simp only [inS, Bool.and_eq_true, decide_eq_true_eq] at h; omega
def fz (s : ByteArray) (i : Int) : Int := match s[i.toNat]? with | some b => (b.toNat : Int) | none => 0
theorem zY {P : Program} {α : Type} {f : Program -> Sem α} : dD P (program >>= f) = dD P (f P) := rfl
theorem zU {P : Program} {α β : Type} {a : α} {f : α -> Sem β} : dD P (pure a >>= f) = dD P (f a) := rfl
theorem kA {P : Program} {ρ : Operand -> AV} {H : List Blk} {nid : Nat} {dst : Option Tmp} {ty t : TypeId} {pos : String} {after : Array Edge} {g : Option (Nat × Bool)} {a b : Operand} {k : IntKind} {i : Int} {s : ByteArray}
  (ha : ρ a = .at (.string s)) (hb : ρ b = .at (.int k i)) (ht : P.underlying t = some .string) (h : inR i s.size = true) : evalOp P ρ H nid ⟨dst, .index t a b, ty, pos, after, g⟩ = some (.pure (.at (.int .u8 (fz s i)))) := by
 show bc.ofP (rE P t (ρ a) (ρ b)) = _
 rw [ha, hb]
 have hi : 0 <= i /\ i < s.size := by simpa [inR] using h
 have hn : i.toNat < s.size := by omega
 have e : dD P (Instr.index t (.string s) (.int k i)) = some (.int .u8 (fz s i)) := by
  simp [Instr.index, asIntOf, underlying, zY, zU, ht, fz, hi.1, hn]
  rfl
 unfold rE
 rw [ht]
 simp only [rO, toV, e]
 rfl
def b6 (K : Nat) (P : Program) (rs : List ResultVar) (us : List AV) (H1 : List Blk) : X -> St -> Prop := fun x st => ∃ T, Wk K st T /\ uk K P rs us H1 x T
theorem b6.ret {K : Nat} {P : Program} {rs : List ResultVar} {us : List AV} {H1 : List Blk} {st : St} (vs : List AV) (k : Wk K ⟨vs, st.heap⟩ ⟨us, H1⟩) (h : dx P st rs = some vs := by kernel_rfl) : b6 K P rs us H1 .ret st := ⟨st, Wk.refl st, uk.ret vs k h⟩
theorem b6.normal {K : Nat} {P : Program} {rs : List ResultVar} {us : List AV} {H1 : List Blk} {st : St} (vs : List AV) (k : Wk K ⟨vs, st.heap⟩ ⟨us, H1⟩) (h : dx P st rs = some vs := by kernel_rfl) : b6 K P rs us H1 .normal st := ⟨st, Wk.refl st, uk.normal vs k h⟩
theorem b6.wk {K : Nat} {P : Program} {rs : List ResultVar} {us : List AV} {H1 : List Blk} {x : X} {st T : St} (hw : Wk K st T) (h : b6 K P rs us H1 x T) : b6 K P rs us H1 x st := by
 obtain ⟨U, h1, h2⟩ := h
 exact ⟨U, hw.trans h1, h2⟩
theorem SC.BL {K : Nat} {P : Program} {st : St} {c : Code} {Q : X -> St -> Prop} (h : SC K P st c (fun x st' => ∃ T, Wk K st' T /\ Q x T)) : SC K P st c Q := fun out B w Z a R hR hr => h out B w Z a R hR fun x st' a' w' Z' hq hR' hE => by
 obtain ⟨T, hw, hq⟩ := hq
 obtain ⟨Z2, g1, g2, g3⟩ := hw out B w' Z' a' hR'
 exact hr x T a' w' Z2 hq g1 (hE.trans (EK.less g2 g3))
theorem bx.fH {K : Nat} {P : Program} (G : lH P) {f : FuncId} {fn : Func} (hf : P.funcs[f]? = some fn) {c : Code} (hb : fn.body = some c) {args us : List AV} {H0 H1 : List Blk} {s : List AV} {rs : List ResultVar} (hs : args ++ oO (fn.ntmps - args.length) = s) (hrs : fn.results.toList = rs)
  (h : CQ K P [.c c] (b6 K P rs us H1) .normal ⟨s, H0⟩) : bx K P f args H0 (fR us) H1 := bx.body G hf hb hs hrs (SC.BL h)
section
variable {K : Nat}
theorem RvC.Dq {w : World} {mu : Nat -> Prop} {Z : List (Option PB)} {A A' : AV} (hA : ∀ v, Rv w mu Z A v -> Rv w mu Z A' v) : ∀ (cs : List AV) (j b o : Nat), cs[j]? = some A -> RvC w mu Z cs b o -> RvC w mu Z (cs.set j A') b o
 | [], j, _, _, h, _ => by simp at h
 | c :: cs, 0, b, o, h, k => by
  simp at h; subst h
  obtain ⟨⟨v, h1, h2, h3⟩, h4⟩ := k
  exact ⟨⟨v, h1, h2, hA _ h3⟩, h4⟩
 | c :: cs, j + 1, b, o, h, k => ⟨k.1, RvC.Dq hA cs j b (o + 1) (by simpa using h) k.2⟩
theorem Wk.CY (i j : Nat) {A A' : AV} {cs : List AV} {s : List AV} {h : List Blk} (hA : ∀ (out B : Nat -> Prop) (w : World) (Z : List (Option PB)) (v : Value), Inv out B w Z h -> Rv w (aH out Z h) Z A v -> Rv w (aH out Z h) Z A' v) (hb : h[i]? = some (.own cs)) (hc : cs[j]? = some A) : Wk K ⟨s, h⟩ ⟨s, h.set i (.own (cs.set j A'))⟩ := fun out B w Z a hR => by
 have hI := hR.inv
 have hil := aE hb
 have g : ∀ {k : Nat} {x : Blk}, (h.set i (.own (cs.set j A')))[k]? = some x -> (k = i /\ x = .own (cs.set j A')) \/ (k ≠ i /\ h[k]? = some x) := by
  intro k x hk
  by_cases hki : k = i
  · subst hki
    rw [List.getElem?_set_self hil] at hk
    exact .inl ⟨rfl, (Option.some.inj hk).symm⟩
  · rw [List.getElem?_set_ne (fun e => hki e.symm)] at hk
    exact .inr ⟨hki, hk⟩
 have old : ∀ {k : Nat} {x : Blk}, (h.set i (.own (cs.set j A')))[k]? = some x -> ∃ y, h[k]? = some y /\ y.isLive = x.isLive /\ y.eh = x.eh /\ (∀ p b, x.owns p b -> y.owns p b) := by
  intro k x hk
  rcases g hk with ⟨rfl, rfl⟩ | ⟨_, hk⟩
  · exact ⟨_, hb, rfl, rfl, fun _ _ h => h⟩
  · exact ⟨x, hk, rfl, rfl, fun _ _ h => h⟩
 have hmu : aH out Z (h.set i (.own (cs.set j A'))) = aH out Z h := by
  funext b
  apply propext
  constructor
  · rintro (hb | ⟨k, x, p, h1, h2, h3, h4⟩)
    · exact .inl hb
    · obtain ⟨y, y1, _, y3, y4⟩ := old h1
      exact .inr ⟨k, y, p, y1, by rw [y3]; exact h2, h3, y4 _ _ h4⟩
  · rintro (hb' | ⟨k, x, p, h1, h2, h3, h4⟩)
    · exact .inl hb'
    · by_cases hki : k = i
      · subst hki
        rw [hb] at h1; cases h1
        exact .inr ⟨k, .own (cs.set j A'), p, List.getElem?_set_self hil, rfl, h3, h4⟩
      · exact .inr ⟨k, x, p, by rw [List.getElem?_set_ne (fun e => hki e.symm)]; exact h1, h2, h3, h4⟩
 refine ⟨Z, ⟨hR.defers, ?_, ?_⟩, fun b hb => ?_, jX.refl Z⟩
 · simp only [hmu]; exact hR.slots
 · refine ⟨by simpa using hI.len, hI.bound, hI.out_lt, ?_, ?_, ?_⟩
   · intro k x p b h1 h2 h3
     obtain ⟨y, y1, _, _, y4⟩ := old h1
     exact hI.baseO k y p b y1 h2 (y4 _ _ h3)
   · intro k x p h1 h2
     simp only [hmu]
     rcases g h1 with ⟨rfl, rfl⟩ | ⟨_, hk⟩
     · obtain ⟨o1, o2⟩ := hI.ok k _ p hb h2
       exact ⟨o1, RvC.Dq (fun v hv => hA out B w Z v hI hv) cs j _ _ hc o2⟩
     · exact hI.ok k x p hk h2
   · intro k l x y p q b hkl h1 h2 h3 h4 h5 h6 h7
     obtain ⟨x', x1, _, x3, x4⟩ := old h1
     obtain ⟨y', y1, _, _, y4⟩ := old h2
     exact hI.sepO k l x' y' p q b hkl x1 y1 h3 h4 (by rw [x3]; exact h5) (x4 _ _ h6) (y4 _ _ h7)
 · rw [hmu] at hb; exact hb
theorem Wk.w8 (i j : Nat) {b len es : Nat} {cs cs' : List AV} {s : List AV} {h : List Blk} (hi : h[i]? = some (.own cs')) (hc : cs'[j]? = some (.hs b 0 len es)) (hb : h[b]? = some (.fix cs)) (hp : cn cs = []) (h0 : len = 0 -> cs = []) : Wk K ⟨s, h⟩ ⟨s, h.set i (.own (cs'.set j (.sl true cs len)))⟩ := Wk.CY i j (fun out B w Z v hI hv => by
 rcases hv with ⟨rfl, rfl⟩ | ⟨p, a, cap, h1, rfl, h2, hsp, h3⟩
 · exact .inl ⟨rfl, rfl, h0 rfl, rfl⟩
 · obtain ⟨g1, g2⟩ := ui hI b p cs hb h1
   obtain ⟨ab, ao, asp⟩ := a
   simp only at hsp; subst hsp
   by_cases hcap : 0 < cap
   · obtain ⟨e1, _⟩ := h3 hcap
     cases e1
     exact .inr (.inl ⟨_, _, cap, rfl, h2, fun _ => g2, gN (fun _ h => h) cs _ _ hp g1⟩)
   · have : cs = [] := h0 (by omega)
     subst this
     exact .inr (.inl ⟨ab, ao, cap, rfl, h2, fun h => (h rfl).elim, trivial⟩)) hi hc
end
end Go.Eng
namespace Go.L
open Go Go.Eng
variable [Dr]
theorem cq {γ : Type} {i : Int} {l : List γ} {j : Nat} {v : γ} (h : inR i l.length = true) : inR i (l.set j v).length = true := by rw [List.length_set]; exact h
end Go.L


set_option linter.all false
namespace Go.Eng
open Go Go.RowKit
variable [Dr]
section
variable {α : Type} {c : α -> List AV} {es : Nat} {l : List α}
theorem Sn.to {H : List Blk} {ok : Nat -> Bool} {A A' A'' : AV} (h : Sn H ok A A') (k : ∀ (w : World) (mu : Nat -> Prop) (Z : List (Option PB)) (u : Value), Rv w mu Z A' u -> Rv w mu Z A'' u) : Sn H ok A A'' := fun w mu mu' Z v hL hm hv => k _ _ _ _ (h w mu mu' Z v hL hm hv)
end
def lE (k : IntKind) (x y : Int) : Int := ae k (x * 2 ^ (min y.toNat k.bits))
section
variable {P : Program} {ρ : Operand -> AV} {H : List Blk} {nid : Nat} {dst : Option Tmp} {ty t u : TypeId} {pos : String} {after : Array Edge} {g : Option (Nat × Bool)} {a b : Operand} {k k' : IntKind} {x y : Int}
theorem wg {op : BinOp} {v : Value} (h : dD P (do eqGuard op t a b (.int k x) (.int k' y); binOp op t (.int k x) (.int k' y)) = some v) (hi : oW op k x y = none) : lI P op t a b (.at (.int k x)) (.at (.int k' y)) = some (.at v) := by
 unfold lI
 simp only [hi]
 cases IntKind.nk k k' <;> simp only [na, toV, h]
theorem wq (ha : ρ a = .at (.int k x)) (hb : ρ b = .at (.int k' y)) (h : decide (0 <= y) = true) : evalOp P ρ H nid ⟨dst, .binOp .shl t a b u, ty, pos, after, g⟩ = some (.pure (.at (.int k (lE k x y)))) := by
 show bc.ofP (lI P .shl t a b (ρ a) (ρ b)) = _
 rw [ha, hb, wg (v := .int k (lE k x y)) ?_ rfl]; rfl
 have hn : ¬ y < 0 := by have := dcT h; omega
 simp [eqGuard, binOp, Op.shift, hn, lE, fh]
 rfl
end
theorem CQ.nh {K : Nat} {P : Program} {k : List Fr} {F : X -> St -> Prop} {d : Code} {s : List AV} {h : List Blk} (ks : List Nat) (h' : List Blk) (hk : CQ K P (.c d :: k) F .normal ⟨lv ks s 0, h'⟩) (e2 : h = h' := by kernel_rfl) : CQ K P (.c d :: k) F .normal ⟨s, h⟩ := CQ.norm ks rfl e2 hk
def rC (s : List AV) : List (Nat × AV) -> List AV
 | [] => s
 | (i, x) :: q => rC (s.set i x) q
theorem CQ.r4 {K : Nat} {P : Program} {k : List Fr} {F : X -> St -> Prop} {d : Code} {s : List AV} {h : List Blk} {i : Nat} {l : List Oper} (G : lH P) (ks : List Nat) (q : List (Nat × AV)) (hk : CQ K P (.c d :: k) F .normal ⟨rC (lv ks s 0) q, h⟩) (e : vz P l s h (ks ++ q.map (·.1)) = some ⟨rC (lv ks s 0) q, h⟩ := by kernel_rfl) : CQ K P (.c (.region i l.toArray false) :: .c d :: k) F .normal ⟨s, h⟩ := CQ.rn G _ _ _ hk e
theorem CQ.r5 {K : Nat} {P : Program} {k : List Fr} {F : X -> St -> Prop} {d : Code} {s : List AV} {h : List Blk} {i : Nat} {l : List Oper} (G : lH P) (ks : List Nat) (q : List (Nat × AV)) (h' : List Blk) (hk : CQ K P (.c d :: k) F .normal ⟨rC (lv ks s 0) q, h'⟩) (e : vz P l s h (ks ++ q.map (·.1)) = some ⟨rC (lv ks s 0) q, h'⟩ := by kernel_rfl) : CQ K P (.c (.region i l.toArray false) :: .c d :: k) F .normal ⟨s, h⟩ := CQ.rn G _ _ _ hk e
theorem oi {α : Type} {x y : α} (h : some x = some y) : x = y := Option.some.inj h
theorem tr {α : Type} {x y z : α} (h : y = z) (hx : x = y := by kernel_rfl) : x = z := hx.trans h
theorem eB {x : Option bc} {e b : Bool} (h : e = b) (hx : x = some (.pure (.at (.bool e))) := by kernel_rfl) : x = some (.pure (.at (.bool b))) := by rw [hx, h]
theorem eA {x : AV} {e b : Bool} (h : e = b) (hx : x = .at (.bool e) := by kernel_rfl) : x = .at (.bool b) := by rw [hx, h]
section
variable {P : Program} {call : dN} {ops rest : List Oper} {o : Oper} {s : List AV} {h : List Blk} {K : List AV -> List Blk -> Prop} {KT : List AV -> List Blk -> List Ent -> Prop}
theorem EVO.pk {v : AV} (he : evalOp P (evA s) h h.length o = some (.pure v)) (hk : EVO P call ops rest (eS s o.dst v) h K) (hw : cE ops o s = some true := by kernel_rfl) : EVO P call ops (o :: rest) s h K := EVO.pure hw he hk
theorem EVO.ek {v : AV} {ws : List (Nat × Blk)} (he : evalOp P (evA s) h h.length o = some (.eff v ws)) (hk : EVO P call ops rest (eS s o.dst v) (aO h ws) K) (hw : cE ops o s = some true := by kernel_rfl) : EVO P call ops (o :: rest) s h K := EVO.eff hw he hk
theorem EVT.pk {v : AV} (he : evalOp P (evA s) h h.length o = some (.pure v)) (hk : EVT P call ops rest (eS s o.dst v) h (fun s' h' es => KT s' h' (oN o s h v [] :: es))) (hw : cE ops o s = some true := by kernel_rfl) (hok : jC h.length (oN o s h v []) = true := by kernel_rfl) : EVT P call ops (o :: rest) s h KT := EVT.pure hw he hok hk
theorem EVT.ek {v : AV} {ws : List (Nat × Blk)} (he : evalOp P (evA s) h h.length o = some (.eff v ws)) (hk : EVT P call ops rest (eS s o.dst v) (aO h ws) (fun s' h' es => KT s' h' (oN o s h v ws :: es))) (hw : cE ops o s = some true := by kernel_rfl) (hok : jC h.length (oN o s h v ws) = true := by kernel_rfl) : EVT P call ops (o :: rest) s h KT := EVT.eff hw he hok hk
end
theorem oj {α : Type} {x y : α} (h : some x = some y) : y = x := (Option.some.inj h).symm
theorem gS {α : Type _} {a b : α} : (some a).getD b = a := rfl
theorem bT (b : Bool) : b = true \/ b = false := Bool.eq_false_or_eq_true b
theorem Sp {H : List Blk} {ok : Nat -> Bool} {A : AV} {As As' : List AV} (k : SnL H ok As As') (h : jh A = [] := by exact rfl) : SnL H ok (A :: As) (A :: As') := SnL.cons (Sn.pure h) k
abbrev kF4 : List (Nat × Bool) := [(0, false), (1, false), (2, false), (3, false)]
theorem z1 : 0 < 1 := by decide
theorem kRf {p : Prop} (h : p := by kernel_rfl) : p := h
theorem kRa {p q : Prop} (k : q) (h : p := by kernel_rfl) : p /\ q := ⟨h, k⟩
theorem CQ.sh {K : Nat} {P : Program} {k : List Fr} {F : X -> St -> Prop} {x : X} {s : List AV} {h : List Blk} (c : CQ K P k F x ⟨s, h⟩) : CQ K P k F x ⟨s, h⟩ := c
end Go.Eng

