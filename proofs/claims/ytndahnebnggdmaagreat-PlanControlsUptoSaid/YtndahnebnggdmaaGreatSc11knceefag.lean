import Derived.Test.YtndahnebnggdmaaGreatSc6obedklpc
import Derived.KernelRfl
import Derived.Scope
set_option linter.all false
namespace Go.Eng
open Go Go.RowKit
variable [Dr]
variable {K : Nat} {P : Program}
def FnMut (K : Nat) (P : Program) (f : FuncId) (args : List AV) (H0 : List Blk) (r : AV) (H1 : List Blk) : Prop :=
 ∀ (out : Nat → Prop) (B : Nat → Prop) (w : World) (π : List (Option PB)) (vs : List Value), Inv out B w π H0 → RvL w (muOf out π H0) π args vs →
  Calls P f vs.toArray w fun e w' => ∃ u π', e = .returned u ∧ EK K B w w' (muOf out π H0) (muOf out π' H1) π π' ∧ Inv out B w' π' H1 ∧ Rv w' (muOf out π' H1) π' r u
theorem unpackA {w : World} {mu : Nat → Prop} {π : List (Option PB)} : ∀ {vs : List AV} {u : Value}, Rv w mu π (packA vs) u → ∃ l : List Value, RvL w mu π vs l ∧ ∀ (w' : World) (mu' : Nat → Prop) (π' : List (Option PB)) (us : List AV), RvL w' mu' π' us l → Rv w' mu' π' (packA us) u
 | [], u, h => by
  obtain ⟨a, rfl, h⟩ := h
  have h0 : a.toList = [] := h
  refine ⟨[], rfl, fun w' mu' π' us hus => ?_⟩
  cases us with
  | nil => exact ⟨a, rfl, h0⟩
  | cons x us => obtain ⟨v, vs', e, _⟩ := hus; cases e
 | [v], u, h => by
  refine ⟨[u], ⟨u, [], rfl, h, rfl⟩, fun w' mu' π' us hus => ?_⟩
  cases us with
  | nil => cases hus
  | cons x us =>
   obtain ⟨v', vs', e, h1, h2⟩ := hus
   cases e
   cases us with
   | nil => exact h1
   | cons y us => obtain ⟨_, _, e, _⟩ := h2; cases e
 | v1 :: v2 :: vs, u, h => by
  obtain ⟨a, rfl, h⟩ := h
  refine ⟨a.toList, h, fun w' mu' π' us hus => ?_⟩
  obtain ⟨x1, l1, e1, _, x2, l2, e2, _⟩ := h
  cases us with
  | nil => rw [e1] at hus; cases hus
  | cons y1 us =>
   cases us with
   | nil =>
    obtain ⟨z, zs, e, _, h2⟩ := hus
    rw [e1] at e; cases e; rw [e2] at h2; cases h2
   | cons y2 us => exact ⟨a, rfl, hus⟩
def FinM (K : Nat) (P : Program) (rs : List ResultVar) (us : List AV) (H1 : List Blk) : X → St → Prop
 | .exit _, _ => False
 | _, st => ∃ vs, resultsA P st rs = some vs ∧ Wk K ⟨vs, st.heap⟩ ⟨us, H1⟩
theorem FinM.ret {rs : List ResultVar} {us : List AV} {H1 : List Blk} {st : St} (vs : List AV) (k : Wk K ⟨vs, st.heap⟩ ⟨us, H1⟩) (h : resultsA P st rs = some vs := by kernel_rfl) : FinM K P rs us H1 .ret st := ⟨vs, h, k⟩
theorem FinM.normal {rs : List ResultVar} {us : List AV} {H1 : List Blk} {st : St} (vs : List AV) (k : Wk K ⟨vs, st.heap⟩ ⟨us, H1⟩) (h : resultsA P st rs = some vs := by kernel_rfl) : FinM K P rs us H1 .normal st := ⟨vs, h, k⟩
theorem FnMut.body (G : Fine P) {f : FuncId} {fn : Func} (hf : P.funcs[f]? = some fn) {c : Code} (hb : fn.body = some c) {args us : List AV} {H0 H1 : List Blk} {s : List AV} {rs : List ResultVar} (hs : args ++ unks (fn.ntmps - args.length) = s) (hrs : fn.results.toList = rs)
  (h : CQ K P [.c c] (FinM K P rs us H1) .normal ⟨s, H0⟩) : FnMut K P f args H0 (packA us) H1 := by
 intro out B w π vs hI ha
 subst hs
 subst hrs
 refine calls_of_wp hf hb ?_
 have hlen := RvL.length _ _ ha
 have hR : Rep out B w π ⟨args ++ unks (fn.ntmps - args.length), H0⟩ { tmps := vs.toArray ++ Array.replicate (fn.ntmps - vs.toArray.size) undef, defers := [] } := by
  refine ⟨rfl, ?_, hI⟩
  simp only [Array.toList_append, Array.toList_replicate, List.size_toArray, hlen]
  refine RvL.append _ _ _ _ ha ?_
  refine RvL.of_forall _ _ (by simp [unks]) fun i x y h1 h2 => ?_
  have := List.mem_of_getElem? h1
  simp [unks] at this
  rw [this.2]; trivial
 refine h out B w π _ _ hR fun x st' a' w' π' hq hR' hE => ?_
 have fin : ∀ vs', resultsA P st' fn.results.toList = some vs' → Wk K ⟨vs', st'.heap⟩ ⟨us, H1⟩ → ∃ u, (results fn a'.tmps).run P w' = .ok u w' ∧ ∃ u' π2, (Ending.returned u) = .returned u' ∧ EK K B w w' (muOf out π H0) (muOf out π2 H1) π π2 ∧ Inv out B w' π2 H1 ∧ Rv w' (muOf out π2 H1) π2 (packA us) u' := by
  intro vs' hv hwk
  obtain ⟨u, r1, r2⟩ := results_sound hR' hv
  obtain ⟨l, l1, l2⟩ := unpackA r2
  obtain ⟨π2, k1, k2, k3⟩ := hwk out B w' π' { tmps := l.toArray, defers := [] } ⟨rfl, l1, hR'.inv⟩
  exact ⟨u, r1, u, π2, rfl, hE.trans (EK.less k2 k3), k1.inv, l2 _ _ _ _ k1.slots⟩
 cases x with
 | normal => obtain ⟨vs', h1, h2⟩ := hq; exact ⟨hR'.defers, fin vs' h1 h2⟩
 | ret => obtain ⟨vs', h1, h2⟩ := hq; exact ⟨hR'.defers, fin vs' h1 h2⟩
 | exit id => exact hq.elim
theorem BlkOk.of_dead {w : World} {mu : Nat → Prop} {π : List (Option PB)} {p : PB} {x : Blk} (h : x.isLive = false) : BlkOk w mu π p x := by
 cases x with
 | dead => trivial
 | own cs => cases h
 | fix cs => cases h
 | map es => cases h
 | iter m n seen => cases h
 | rows rs => cases h
set_option maxHeartbeats 1000000
theorem updAll_len : ∀ (ws : List (Nat × Blk)) (H : List Blk), (∀ q ∈ ws, q.1 < H.length) → (updAll H ws).length = H.length
 | [], H, _ => rfl
 | (j, b) :: ws, H, h => by
  have hj := h (j, b) (by simp)
  have hl : (upd H j b).length = H.length := by rw [upd_length (by omega), if_neg (by simp only at hj; omega)]
  simp only [updAll]
  rw [updAll_len ws (upd H j b) (fun q hq => by rw [hl]; exact h q (by simp [hq])), hl]
theorem updAll_off : ∀ (ws : List (Nat × Blk)) (H : List Blk) (j : Nat), (∀ q ∈ ws, q.1 < H.length) → (∀ b, (j, b) ∉ ws) → (updAll H ws)[j]? = H[j]?
 | [], H, _, _, _ => rfl
 | (i, b) :: ws, H, j, h, hj => by
  have hi := h (i, b) (by simp)
  simp only at hi
  have hl : (upd H i b).length = H.length := by rw [upd_length (by omega), if_neg (by omega)]
  simp only [updAll]
  rw [updAll_off ws (upd H i b) j (fun q hq => by rw [hl]; exact h q (by simp [hq])) (fun x hx => hj x (by simp [hx])), upd_get (by omega), if_neg]
  rintro rfl
  exact hj b (by simp)
theorem updAll_on : ∀ (ws : List (Nat × Blk)) (H : List Blk) (j : Nat) (b : Blk), (∀ q ∈ ws, q.1 < H.length) → (ws.map (·.1)).Nodup → (j, b) ∈ ws → (updAll H ws)[j]? = some b
 | [], _, _, _, _, _, h => by simp at h
 | (i, x) :: ws, H, j, b, h, hn, hm => by
  have hi := h (i, x) (by simp)
  simp only at hi
  have hl : (upd H i x).length = H.length := by rw [upd_length (by omega), if_neg (by omega)]
  have hn' := List.nodup_cons.1 (by simpa using hn : (i :: ws.map (·.1)).Nodup)
  simp only [updAll]
  have hrest : ∀ q ∈ ws, q.1 < (upd H i x).length := fun q hq => by rw [hl]; exact h q (by simp [hq])
  rcases List.mem_cons.1 hm with e | hm
  · obtain ⟨rfl, rfl⟩ := Prod.mk.inj e
    rw [updAll_off ws _ j hrest (fun y hy => hn'.1 (List.mem_map.2 ⟨(j, y), hy, rfl⟩)), upd_get (by omega), if_pos rfl]
  · exact updAll_on ws _ j b hrest hn'.2 hm
theorem nodupK_map : ∀ (l : List (Nat × Bool)), nodupK l = true → (l.map (·.1)).Nodup
 | [], _ => List.nodup_nil
 | (b, t) :: l, h => by
  simp only [nodupK, Bool.and_eq_true] at h
  obtain ⟨h1, h2⟩ := h
  have hno : posOf l b 0 = none := by
   cases hb : posOf l b 0 with
   | none => rfl
   | some c => rw [hb] at h1; cases h1
  refine List.nodup_cons.2 ⟨fun hm => ?_, nodupK_map l h2⟩
  obtain ⟨q, hq, he⟩ := List.mem_map.1 hm
  obtain ⟨j, hj⟩ := List.getElem?_of_mem hq
  exact posOf_none l b 0 hno j q.2 (by rw [hj]; exact congrArg some (Prod.ext he rfl))
def tgtN (K : Nat) (keep : List (Nat × Bool)) (n m : Nat) : List Nat := (keep.take K).map (·.1) ++ List.range' n m
def zipB (ρ : Nat → Option Nat) : List Nat → List Bool → List Blk → List (Nat × Blk)
 | j :: js, t :: ts, x :: xs => (j, rfB ρ t x) :: zipB ρ js ts xs
 | _, _, _ => []
def killW : List (Nat × Bool) → List (Nat × Blk)
 | [] => []
 | (b, _) :: l => (b, .dead) :: killW l
def wsMut (K : Nat) (keep : List (Nat × Bool)) (n m : Nat) (ts : List Bool) (H1 : List Blk) : List (Nat × Blk) :=
 zipB (fun k => (tgtN K keep n m)[k]?) (tgtN K keep n m) ts H1 ++ killW (keep.drop K)
def pureT : List Bool → List Blk → Prop
 | false :: ts, x :: xs => pureBk (some x) ∧ pureT ts xs
 | true :: ts, _ :: xs => pureT ts xs
 | _, _ => True
theorem zipB_map (ρ : Nat → Option Nat) : ∀ (js : List Nat) (ts : List Bool) (xs : List Blk), js.length = xs.length → ts.length = xs.length → (zipB ρ js ts xs).map (·.1) = js
 | [], [], [], _, _ => rfl
 | j :: js, t :: ts, x :: xs, h1, h2 => by simp only [zipB, List.map_cons]; rw [zipB_map ρ js ts xs (by simpa using h1) (by simpa using h2)]
 | [], _ :: _, _, h1, h2 => by cases (List.eq_nil_of_length_eq_zero (by simpa using h1.symm)); simp at h2
 | _ :: _, [], _, h1, h2 => by cases (List.eq_nil_of_length_eq_zero (by simpa using h2.symm)); simp at h1
 | [], [], _ :: _, h1, _ => by simp at h1
 | _ :: _, _ :: _, [], h1, _ => by simp at h1
theorem zipB_mem (ρ : Nat → Option Nat) : ∀ (js : List Nat) (ts : List Bool) (xs : List Blk) (j : Nat) (b : Blk), (j, b) ∈ zipB ρ js ts xs → ∃ (k : Nat) (t : Bool) (x : Blk), js[k]? = some j ∧ ts[k]? = some t ∧ xs[k]? = some x ∧ b = rfB ρ t x
 | [], _, _, _, _, h => by simp [zipB] at h
 | _ :: _, [], _, _, _, h => by simp [zipB] at h
 | _ :: _, _ :: _, [], _, _, h => by simp [zipB] at h
 | j' :: js, t :: ts, x :: xs, j, b, h => by
  simp only [zipB, List.mem_cons, Prod.mk.injEq] at h
  rcases h with ⟨rfl, rfl⟩ | h
  · exact ⟨0, t, x, rfl, rfl, rfl, rfl⟩
  · obtain ⟨k, t', x', h1, h2, h3, h4⟩ := zipB_mem ρ js ts xs j b h
    exact ⟨k + 1, t', x', by simpa using h1, by simpa using h2, by simpa using h3, h4⟩
theorem killW_map : ∀ l : List (Nat × Bool), (killW l).map (·.1) = l.map (·.1)
 | [] => rfl
 | (b, t) :: l => by simp only [killW, List.map_cons, killW_map l]
theorem killW_mem : ∀ (l : List (Nat × Bool)) (j : Nat) (b : Blk), (j, b) ∈ killW l → b = .dead
 | [], _, _, h => by simp [killW] at h
 | (i, t) :: l, j, b, h => by
  simp only [killW, List.mem_cons, Prod.mk.injEq] at h
  rcases h with ⟨_, rfl⟩ | h
  · rfl
  · exact killW_mem l j b h
theorem pureT_get : ∀ (ts : List Bool) (xs : List Blk) (k : Nat) (x : Blk), pureT ts xs → ts[k]? = some false → xs[k]? = some x → pureBk (some x)
 | [], _, k, x, _, h, _ => by simp at h
 | _ :: _, [], k, x, _, _, h => by simp at h
 | false :: ts, y :: xs, 0, x, hp, _, h => by simp at h; subst h; exact hp.1
 | false :: ts, y :: xs, k + 1, x, hp, h1, h2 => pureT_get ts xs k x hp.2 (by simpa using h1) (by simpa using h2)
 | true :: ts, y :: xs, 0, x, hp, h, _ => by simp at h
 | true :: ts, y :: xs, k + 1, x, hp, h1, h2 => pureT_get ts xs k x hp (by simpa using h1) (by simpa using h2)
theorem rnH_congr {H H' : List Blk} {keep : List (Nat × Bool)} : ∀ (l : List (Nat × Bool)), (∀ q ∈ l, H'[q.1]? = H[q.1]?) → rnH H' keep l = rnH H keep l
 | [], _ => rfl
 | (b, t) :: l, h => by
  simp only [rnH]
  rw [h (b, t) (by simp), rnH_congr l fun q hq => h q (by simp [hq])]
theorem pureK_congr {H H' : List Blk} : ∀ (l : List (Nat × Bool)), (∀ q ∈ l, H'[q.1]? = H[q.1]?) → pureK H l → pureK H' l
 | [], _, _ => trivial
 | (b, false) :: l, h, hp => ⟨by rw [h (b, false) (by simp)]; exact hp.1, pureK_congr l (fun q hq => h q (by simp [hq])) hp.2⟩
 | (b, true) :: l, h, hp => pureK_congr l (fun q hq => h q (by simp [hq])) hp
theorem callOk_mut {f : FuncId} {args args0 : List AV} {H H0 H1 : List Blk} {r v : AV} {ws : List (Nat × Blk)} {m : Nat} {rd : List Nat} (K : Nat) (keep : List (Nat × Bool)) (ts : List Bool) (hrun : FnMut K P f args0 H0 r H1)
  (hpure : pureK H keep) (hpt : pureT ts H1) (hlen1 : H1.length = K + m) (hlent : ts.length = H1.length)
  (hn : nodupK keep = true := by kernel_rfl) (hlt : keep.all (fun q => Nat.blt q.1 H.length) = true := by kernel_rfl) (hK : Nat.ble K keep.length = true := by kernel_rfl)
  (hargs : rnL keep args = args0 := by kernel_rfl) (hH : rnH H keep keep = H0 := by kernel_rfl)
  (hv : rfA (fun k => (tgtN K keep H.length m)[k]?) r = v := by kernel_rfl) (hws : wsMut K keep H.length m ts H1 = ws := by kernel_rfl) (hrd : keep.map (·.1) = rd := by kernel_rfl) : CallOk P f args H (.loc v ws rd m) := by
 intro H' hlen hag out B w π vs hI hπ ha
 subst hrd hH hargs
 have hK : K ≤ keep.length := Nat.le_of_ble_eq_true hK
 have hltb : ∀ q ∈ keep, q.1 < H.length := fun q hq => by have := List.all_eq_true.1 hlt q hq; simpa [Nat.blt_eq] using this
 have hagq : ∀ q ∈ keep, H'[q.1]? = H[q.1]? := fun q hq => hag q.1 (List.mem_map.2 ⟨q, hq, rfl⟩) (hltb q hq)
 rw [← rnH_congr keep hagq] at hrun
 have hpure' := pureK_congr keep hagq hpure
 have hnod := nodupK_map keep hn
 have hl := hI.len
 obtain ⟨π0, hπ0⟩ : ∃ π0 : List (Option PB), π0 = keep.map fun q => (π[q.1]?).getD none := ⟨_, rfl⟩
 have hπm : ∀ b c p, posOf keep b 0 = some c → π[b]? = some (some p) → π0[c]? = some (some p) := by
  intro b c p h1 h2
  obtain ⟨j, t, rfl, h3⟩ := posOf_get keep b 0 c h1
  rw [hπ0, List.getElem?_map, Nat.zero_add, h3]
  simp [h2]
 have back : ∀ {j : Nat} {x : Blk} {p : PB}, (rnH H' keep keep)[j]? = some x → x.isLive = true → π0[j]? = some (some p) → ∃ b t y, keep[j]? = some (b, t) ∧ H'[b]? = some y ∧ rfB (fun b => posOf keep b 0) t y = x ∧ π[b]? = some (some p) := by
  intro j x p h1 h2 h3
  obtain ⟨b, t, y, g1, g2, g3⟩ := rnH_get keep j x h1 h2
  refine ⟨b, t, y, g1, g2, g3, ?_⟩
  rw [hπ0, List.getElem?_map, g1] at h3
  simp only [Option.map_some, Option.some.injEq] at h3
  cases hb : π[b]? with
  | none => rw [hb] at h3; cases h3
  | some q => rw [hb] at h3; simp only [Option.getD_some] at h3; rw [h3]
 have isin : ∀ {j b : Nat} {t : Bool}, keep[j]? = some (b, t) → b ∈ keep.map (·.1) := fun h => List.mem_map.2 ⟨_, List.mem_of_getElem? h, rfl⟩
 obtain ⟨out0, hout0⟩ : ∃ o : Nat → Prop, o = fun b => out b ∨ ∃ (i : Nat) (x : Blk) (p : PB), H'[i]? = some x ∧ x.isMut = true ∧ i ∉ keep.map (·.1) ∧ π[i]? = some (some p) ∧ x.owns p b := ⟨_, rfl⟩
 obtain ⟨Q0, hQ0⟩ : ∃ Q : Nat → Prop, Q = fun b => b < w.heap.size ∧ ¬ ∃ (k : Nat) (x : Blk) (p : PB), (rnH H' keep keep)[k]? = some x ∧ x.isLive = true ∧ π0[k]? = some (some p) ∧ x.owns p b := ⟨_, rfl⟩
 have hmu : ∀ b, muOf out0 π0 (rnH H' keep keep) b → muOf out π H' b := by
  rintro b (ho | ⟨j, x, p, e1, e2, e3, e4⟩)
  · rw [hout0] at ho
    rcases ho with ho | ⟨i, x, p, g1, g2, _, g3, g4⟩
    · exact .inl ho
    · exact .inr ⟨i, x, p, g1, g2, g3, g4⟩
  · obtain ⟨b', t, y, g1, g2, g3, g4⟩ := back e1 (Blk.live_of_mut e2) e3
    exact .inr ⟨b', y, p, g2, rfB_mut (by rw [g3]; exact e2), g4, rfB_owns (by rw [g3]; exact e4)⟩
 have hB0 : ∀ b, B b → Q0 b := by
  intro b hb
  rw [hQ0]
  refine ⟨hI.bound b hb, ?_⟩
  rintro ⟨k, x, p, e1, e2, e3, e4⟩
  obtain ⟨b', t, y, g1, g2, g3, g4⟩ := back e1 e2 e3
  exact (hI.baseO b' y p b g2 g4 (rfB_owns (by rw [g3]; exact e4))).1 hb
 have hI0 : Inv out0 Q0 w π0 (rnH H' keep keep) := by
  refine ⟨by rw [hπ0, List.length_map]; exact (rnH_length keep).symm, fun b hb => by rw [hQ0] at hb; exact hb.1, ?_, ?_, ?_, ?_⟩
  · intro b hb
    rw [hout0] at hb
    rcases hb with hb | ⟨i, x, p, g1, g2, g3, g4, g5⟩
    · exact hB0 b (hI.out_lt b hb)
    · rw [hQ0]
      refine ⟨(hI.baseO i x p b g1 g4 g5).2, ?_⟩
      rintro ⟨k, y, q, e1, e2, e3, e4⟩
      obtain ⟨b', t, z, k1, k2, k3, k4⟩ := back e1 e2 e3
      refine hI.sepO i b' x z p q b ?_ g1 k2 g4 k4 g2 g5 (rfB_owns (by rw [k3]; exact e4))
      rintro rfl
      exact g3 (isin k1)
  · intro j x p b0 e1 e2 e3
    refine ⟨fun hq => ?_, ?_⟩
    · rw [hQ0] at hq; exact hq.2 ⟨j, x, p, e1, Blk.live_owns e3, e2, e3⟩
    · obtain ⟨b, t, y, g1, g2, g3, g4⟩ := back e1 (Blk.live_owns e3) e2
      exact (hI.baseO b y p b0 g2 g4 (rfB_owns (by rw [g3]; exact e3))).2
  · intro j x p e1 e2
    cases hx : x.isLive with
    | false => exact BlkOk.of_dead hx
    | true =>
     obtain ⟨b, t, y, g1, g2, g3, g4⟩ := back e1 hx e2
     have hok := hI.ok b y p g2 g4
     subst g3
     exact rfB_ok hmu hπm (fun ht => by subst ht; have := pureK_get keep hpure' j b g1; rw [g2] at this; exact this) hok
  · intro i j x y p q b0 hij e1 e2 e3 e4 e5 e6 e7
    obtain ⟨b, t, z, g1, g2, g3, g4⟩ := back e1 (Blk.live_of_mut e5) e3
    obtain ⟨b', t', z', k1, k2, k3, k4⟩ := back e2 (Blk.live_owns e7) e4
    refine hI.sepO b b' z z' p q b0 ?_ g2 k2 g4 k4 (rfB_mut (by rw [g3]; exact e5)) (rfB_owns (by rw [g3]; exact e6)) (rfB_owns (by rw [k3]; exact e7))
    rintro rfl
    exact hij (nodupK_ne keep hn i j b t t' g1 k1)
 refine (hrun out0 Q0 w π0 vs hI0 (rfL_rv hmu hπm args _ ha)).mono ?_
 rintro e w' ⟨u, π1, rfl, hE, hI1, hr⟩
 obtain ⟨tg, htg⟩ : ∃ tg, tg = tgtN K keep H.length m := ⟨_, rfl⟩
 have htl : tg.length = K + m := by rw [htg]; simp only [tgtN, List.length_append, List.length_map, List.length_take, List.length_range']; omega
 have htk : ∀ k, k < K → ∃ t, keep[k]? = some (tg[k]?.getD 0, t) ∧ tg[k]? = some (tg[k]?.getD 0) := by
  intro k hk
  have hk' : k < keep.length := by omega
  refine ⟨keep[k].2, ?_⟩
  have : tg[k]? = some keep[k].1 := by
   rw [htg, tgtN, List.getElem?_append_left (by simp; omega), List.getElem?_map, List.getElem?_take, if_pos hk, List.getElem?_eq_getElem hk']; rfl
  rw [this]
  simp [List.getElem?_eq_getElem hk']
 have htn : ∀ k, K ≤ k → k < K + m → tg[k]? = some (H.length + (k - K)) := by
  intro k h1 h2
  rw [htg, tgtN, List.getElem?_append_right (by simp; omega)]
  have : (List.map (fun x : Nat × Bool => x.1) (List.take K keep)).length = K := by simp; omega
  rw [this, List.getElem?_range' (by omega)]
  simp
 have htnd : tg.Nodup := by
  rw [htg, tgtN, List.nodup_append]
  refine ⟨?_, List.nodup_range', ?_⟩
  · rw [List.map_take]; exact List.Sublist.nodup (List.take_sublist _ _) hnod
  · rintro a ha' b hb rfl
    obtain ⟨q, hq, rfl⟩ := List.mem_map.1 ha'
    have h1 := hltb q (List.mem_of_mem_take hq)
    have := (List.mem_range'_1.1 hb).1
    omega
 have htinj : ∀ {i j c : Nat}, tg[i]? = some c → tg[j]? = some c → i = j := by
  intro i j c h1 h2
  have hi := getElem?_lt h1
  have hj := getElem?_lt h2
  rw [List.getElem?_eq_getElem hi] at h1
  rw [List.getElem?_eq_getElem hj] at h2
  exact (List.getElem_inj htnd).1 (by rw [Option.some.inj h1, Option.some.inj h2])
 have hzm : (zipB (fun k => tg[k]?) tg ts H1).map (·.1) = tg := zipB_map _ _ _ _ (by rw [htl, hlen1]) hlent
 rw [← htg] at hv
 have hws' : ws = zipB (fun k => tg[k]?) tg ts H1 ++ killW (keep.drop K) := by rw [← hws, wsMut, ← htg]
 have hwm : ws.map (·.1) = tg ++ (keep.drop K).map (·.1) := by rw [hws', List.map_append, hzm, killW_map]
 have hwnd : (ws.map (·.1)).Nodup := by
  rw [hwm, List.nodup_append]
  refine ⟨htnd, ?_, ?_⟩
  · rw [List.map_drop]; exact List.Sublist.nodup (List.drop_sublist _ _) hnod
  · rintro a ha' b hb rfl
    obtain ⟨k, hk⟩ := List.getElem?_of_mem ha'
    obtain ⟨q, hq, rfl⟩ := List.mem_map.1 hb
    obtain ⟨i, hi⟩ := List.getElem?_of_mem hq
    rw [List.getElem?_drop] at hi
    by_cases hkK : k < K
    · obtain ⟨t, g1, g2⟩ := htk k hkK
      rw [hk] at g1
      have := nodupK_ne keep hn k (K + i) _ t q.2 g1 (by rw [hi]; rfl)
      omega
    · have hkl := getElem?_lt hk
      rw [htn k (by omega) (by omega)] at hk
      have := hltb q (List.mem_of_getElem? hi)
      have := Option.some.inj hk
      omega
 have hwlt : ∀ q ∈ ws, q.1 < H'.length := by
  intro q hq
  have : q.1 ∈ ws.map (·.1) := List.mem_map.2 ⟨q, hq, rfl⟩
  rw [hwm] at this
  rcases List.mem_append.1 this with h | h
  · obtain ⟨k, hk⟩ := List.getElem?_of_mem h
    by_cases hkK : k < K
    · obtain ⟨t, g1, g2⟩ := htk k hkK
      rw [hk] at g1
      have := hltb _ (List.mem_of_getElem? g1)
      simp only [Option.getD_some] at this
      omega
    · have hkl := getElem?_lt hk
      rw [htn k (by omega) (by omega)] at hk
      have := Option.some.inj hk
      omega
  · obtain ⟨x, hx, e⟩ := List.mem_map.1 h
    have := hltb x (List.mem_of_mem_drop hx)
    omega
 obtain ⟨H2, hH2⟩ : ∃ H2, H2 = updAll H' ws := ⟨_, rfl⟩
 have hH2l : H2.length = H'.length := by rw [hH2]; exact updAll_len ws H' hwlt
 have tglt : ∀ {k j : Nat}, tg[k]? = some j → j < π.length := by
  intro k j hk
  have : j ∈ ws.map (·.1) := by rw [hwm]; exact List.mem_append.2 (.inl (List.mem_of_getElem? hk))
  obtain ⟨q, hq, rfl⟩ := List.mem_map.1 this
  have := hwlt q hq
  omega
 have hex : ∀ j : Nat, ∃ o : Option PB, (∀ k : Nat, tg[k]? = some j → o = (π1[k]?).getD none) ∧ (j ∉ tg → o = (π[j]?).getD none) := by
  intro j
  by_cases hj : j ∈ tg
  · obtain ⟨k, hk⟩ := List.getElem?_of_mem hj
    exact ⟨(π1[k]?).getD none, fun k' hk' => by rw [htinj hk hk'], fun h => (h hj).elim⟩
  · exact ⟨(π[j]?).getD none, fun k hk => (hj (List.mem_of_getElem? hk)).elim, fun _ => rfl⟩
 obtain ⟨g, hg⟩ := Classical.axiomOfChoice hex
 obtain ⟨π2, hπ2⟩ : ∃ π2 : List (Option PB), π2 = (List.range π.length).map g := ⟨_, rfl⟩
 have ol : π2.length = π.length := by rw [hπ2]; simp
 have oi : ∀ {k j : Nat}, tg[k]? = some j → π2[j]? = some ((π1[k]?).getD none) := by
  intro k j hk
  rw [hπ2, List.getElem?_map, List.getElem?_range (tglt hk), Option.map_some, (hg j).1 k hk]
 have oo : ∀ {j : Nat}, j ∉ tg → π2[j]? = π[j]? := by
  intro j hj
  by_cases hl : j < π.length
  · rw [hπ2, List.getElem?_map, List.getElem?_range hl, Option.map_some, (hg j).2 hj, List.getElem?_eq_getElem hl, Option.getD_some]
  · rw [List.getElem?_eq_none (by omega), List.getElem?_eq_none (by omega)]
 have hback : ∀ (b c : Nat) (q : PB), tg[b]? = some c → π1[b]? = some (some q) → π2[c]? = some (some q) := by
  intro b c q hb hq
  rw [oi hb, hq]; rfl
 have hpre : ∀ (i : Nat) (p : PB), π[i]? = some (some p) → π2[i]? = some (some p) := by
  intro i p h
  by_cases hi : i ∈ tg
  · obtain ⟨k, hk⟩ := List.getElem?_of_mem hi
    by_cases hkK : k < K
    · obtain ⟨t, g1, g2⟩ := htk k hkK
      rw [hk] at g1
      simp only [Option.getD_some] at g1
      have : π0[k]? = some (some p) := by rw [hπ0, List.getElem?_map, g1]; simp [h]
      exact hback k i p hk (hE.pin k hkK p this)
    · have hkl := getElem?_lt hk
      rw [htn k (by omega) (by omega)] at hk
      obtain rfl := Option.some.inj hk
      exact (hπ _ (by omega) (by omega) p h).elim
  · rw [oo hi]; exact h
 have key : ∀ (j : Nat) (x : Blk) (p : PB), H2[j]? = some x → x.isLive = true → π2[j]? = some (some p) →
   (j ∉ keep.map (·.1) ∧ H'[j]? = some x ∧ π[j]? = some (some p)) ∨ ∃ (k : Nat) (t : Bool) (y : Blk), tg[k]? = some j ∧ ts[k]? = some t ∧ H1[k]? = some y ∧ x = rfB (fun k => tg[k]?) t y ∧ π1[k]? = some (some p) := by
  intro j x p h1 h2 h3
  by_cases hj : ∃ b, (j, b) ∈ ws
  · obtain ⟨b, hb⟩ := hj
    have e := updAll_on ws H' j b hwlt hwnd hb
    rw [← hH2, h1] at e
    cases e
    rw [hws'] at hb
    rcases List.mem_append.1 hb with hb | hb
    · obtain ⟨k, t, y, g1, g2, g3, g4⟩ := zipB_mem _ _ _ _ _ _ hb
      refine .inr ⟨k, t, y, g1, g2, g3, g4, ?_⟩
      rw [oi g1] at h3
      cases hk : π1[k]? with
      | none => rw [hk] at h3; cases h3
      | some q => rw [hk] at h3; simpa using h3
    · have := killW_mem _ _ _ hb
      subst this
      cases h2
  · have hj : ∀ b, (j, b) ∉ ws := fun b hb => hj ⟨b, hb⟩
    rw [hH2, updAll_off ws H' j hwlt hj] at h1
    have hjm : j ∉ ws.map (·.1) := fun hm => by
     obtain ⟨q, hq, rfl⟩ := List.mem_map.1 hm
     exact hj q.2 hq
    rw [hwm] at hjm
    have hjt : j ∉ tg := fun h => hjm (List.mem_append.2 (.inl h))
    have hjd : j ∉ (keep.drop K).map (·.1) := fun h => hjm (List.mem_append.2 (.inr h))
    refine .inl ⟨fun hm => ?_, h1, ?_⟩
    · obtain ⟨q, hq, rfl⟩ := List.mem_map.1 hm
      obtain ⟨i, hi⟩ := List.getElem?_of_mem hq
      by_cases hiK : i < K
      · obtain ⟨t, g1, g2⟩ := htk i hiK
        rw [hi] at g1
        have e : q.1 = tg[i]?.getD 0 := by rw [Option.some.inj g1]
        rw [← e] at g2
        exact hjt (List.mem_of_getElem? g2)
      · refine hjd (List.mem_map.2 ⟨q, ?_, rfl⟩)
        refine List.mem_of_getElem? (i := i - K) ?_
        rw [List.getElem?_drop, show K + (i - K) = i by omega]; exact hi
    · rw [oo hjt] at h3; exact h3
 have hmu2 : ∀ b, muOf out π2 H2 b → muOf out0 π1 H1 b := by
  rintro b (h | ⟨i, x, p, h1, h2, h3, h4⟩)
  · exact .inl (by rw [hout0]; exact .inl h)
  · rcases key i x p h1 (Blk.live_of_mut h2) h3 with ⟨g1, g2, g3⟩ | ⟨k, t, y, g1, g2, g3, g4, g5⟩
    · exact .inl (by rw [hout0]; exact .inr ⟨i, x, p, g2, h2, g1, g3, h4⟩)
    · exact .inr ⟨k, y, p, g3, rfB_mut (by rw [← g4]; exact h2), g5, rfB_owns (by rw [← g4]; exact h4)⟩
 have hExt : Ext B w w' (muOf out π H') (muOf out π2 H2) π π2 := by
  refine ⟨fun b hb => hE.low b (hB0 b hb), hE.size, fun b hb hnb => ?_, hpre, hE.os, hE.tape, hE.output, hE.drawn⟩
  obtain ⟨k1, k2⟩ := hE.keep b hb (fun h => hnb (hmu b h))
  exact ⟨k1, fun h => k2 (hmu2 b h)⟩
 have calleeB : ∀ {k : Nat} {y : Blk} {p : PB} {c : Nat}, H1[k]? = some y → π1[k]? = some (some p) → y.owns p c → w.heap.size ≤ c ∨ ∃ (b : Nat) (z : Blk) (q : PB), b ∈ keep.map (·.1) ∧ H'[b]? = some z ∧ π[b]? = some (some q) ∧ z.owns q c := by
  intro k y p c h1 h2 h3
  have hnq := (hI1.baseO k y p c h1 h2 h3).1
  rw [hQ0] at hnq
  by_cases hlt : c < w.heap.size
  · right
    have hnq : ∃ (k : Nat) (x : Blk) (q : PB), (rnH H' keep keep)[k]? = some x ∧ x.isLive = true ∧ π0[k]? = some (some q) ∧ x.owns q c := Classical.byContradiction fun hc => hnq ⟨hlt, hc⟩
    obtain ⟨k', x, q, e1, e2, e3, e4⟩ := hnq
    obtain ⟨b, t, z, g1, g2, g3, g4⟩ := back e1 e2 e3
    exact ⟨b, z, q, isin g1, g2, g4, rfB_owns (by rw [g3]; exact e4)⟩
  · exact .inl (by omega)
 have same : ∀ {i : Nat} {x : Blk} {p : PB} {c : Nat}, i ∉ keep.map (·.1) → H'[i]? = some x → π[i]? = some (some p) → x.owns p c → w'.heap[c]? = w.heap[c]? := by
  intro i x p c h0 h1 h2 h3
  by_cases hm : x.isMut = true
  · exact hE.low _ (hI0.out_lt _ (by rw [hout0]; exact .inr ⟨i, x, p, h1, hm, h0, h2, h3⟩))
  · refine (hE.keep c (hI.baseO i x p c h1 h2 h3).2 (fun h => ?_)).1
    rcases hmu _ h with ho | ⟨j, y, q, g1, g2, g3, g4⟩
    · exact (hI.baseO i x p c h1 h2 h3).1 (hI.out_lt _ ho)
    · by_cases hji : j = i
      · subst hji; rw [h1] at g1; cases g1; exact hm g2
      · exact hI.sepO j i y x q p c hji g1 h1 g3 h2 g2 g4 h3
 refine ⟨u, π2, rfl, ?_, ?_, ?_, ?_⟩
 · rw [← hH2]; exact hExt
 · rw [← hH2]
   refine ⟨by rw [ol, hH2l, hl], fun b hb => Nat.lt_of_lt_of_le (hI.bound b hb) hE.size, hI.out_lt, ?_, ?_, ?_⟩
   · intro i x p c h1 h2 h3
     rcases key i x p h1 (Blk.live_owns h3) h2 with ⟨g1, g2, g3⟩ | ⟨k, t, y, g1, g2, g3, g4, g5⟩
     · have := hI.baseO i x p c g2 g3 h3
       exact ⟨this.1, Nat.lt_of_lt_of_le this.2 hE.size⟩
     · have hyl : y.owns p c := rfB_owns (by rw [← g4]; exact h3)
       exact ⟨fun hb => (hI1.baseO k y p c g3 g5 hyl).1 (hB0 _ hb), (hI1.baseO k y p c g3 g5 hyl).2⟩
   · intro i x p h1 h2
     cases hx : x.isLive with
     | false => exact BlkOk.of_dead hx
     | true =>
      rcases key i x p h1 hx h2 with ⟨g1, g2, g3⟩ | ⟨k, t, y, g1, g2, g3, g4, g5⟩
      · exact BlkOk.ext hExt (fun c hc => same g1 g2 g3 hc) (hI.ok i x p g2 g3)
      · subst g4
        exact rfB_ok hmu2 hback (fun ht => by subst ht; exact pureT_get ts H1 k y hpt g2 g3) (hI1.ok k y p g3 g5)
   · intro i j x y p q c hij h1 h2 h3 h4 h5 h6 h7
     rcases key i x p h1 (Blk.live_of_mut h5) h3 with ⟨g1, g2, g3⟩ | ⟨k, t, z, g1, g2, g3, g4, g5⟩
     · rcases key j y q h2 (Blk.live_owns h7) h4 with ⟨k1, k2, k3⟩ | ⟨k', t', z', k1, k2, k3, k4, k5⟩
       · exact hI.sepO i j x y p q c hij g2 k2 g3 k3 h5 h6 h7
       · have hzl : z'.owns q c := rfB_owns (by rw [← k4]; exact h7)
         refine (hI1.baseO k' z' q c k3 k5 hzl).1 (hI1.out_lt _ ?_)
         rw [hout0]; exact .inr ⟨i, x, p, g2, h5, g1, g3, h6⟩
     · have hzm : z.isMut = true := rfB_mut (by rw [← g4]; exact h5)
       have hzo : z.owns p c := rfB_owns (by rw [← g4]; exact h6)
       rcases key j y q h2 (Blk.live_owns h7) h4 with ⟨k1, k2, k3⟩ | ⟨k', t', z', k1, k2, k3, k4, k5⟩
       · have hqlt := (hI.baseO j y q c k2 k3 h7).2
         rcases calleeB g3 g5 hzo with hge | ⟨b, z2, q2, f1, f2, f3, f4⟩
         · omega
         · have hne : b ≠ j := fun e => k1 (e ▸ f1)
           by_cases hm0 : muOf out0 π0 (rnH H' keep keep) c
           · rcases hm0 with ho | ⟨k2', x2, p2, e1, e2, e3, e4⟩
             · exact (hI1.baseO k z p c g3 g5 hzo).1 (hI1.out_lt _ ho)
             · obtain ⟨b', t2, y2, m1, m2, m3, m4⟩ := back e1 (Blk.live_of_mut e2) e3
               have hb'j : b' ≠ j := fun e => k1 (e ▸ isin m1)
               exact hI.sepO b' j y2 y p2 q c hb'j m2 k2 m4 k3 (rfB_mut (by rw [m3]; exact e2)) (rfB_owns (by rw [m3]; exact e4)) h7
           · exact (hE.keep c (by omega) hm0).2 (.inr ⟨k, z, p, g3, hzm, g5, hzo⟩)
       · have hkk : k ≠ k' := by
          rintro rfl
          rw [g1] at k1
          exact hij (Option.some.inj k1)
         exact hI1.sepO k k' z z' p q c hkk g3 k3 g5 k5 hzm hzo (rfB_owns (by rw [← k4]; exact h7))
 · rw [← hH2, ← hv]
   exact rfA_rv hmu2 hback r u hr
 · intro j hj
   have hjm : j ∉ tg := fun hm => by
    have : j ∈ ws.map (·.1) := by rw [hwm]; exact List.mem_append.2 (.inl hm)
    obtain ⟨q, hq, rfl⟩ := List.mem_map.1 this
    exact hj q.2 hq
   exact oo hjm
end Go.Eng


set_option linter.unusedVariables false
namespace Go.Eng
open Go Go.RowKit
variable [Dr]
noncomputable def opsSt (P : Program) (call : CallF) (ops l : List Oper) (s : List AV) (h : List Blk) : St := match evalOps P call ops l ⟨s, h⟩ with | some st => st | none => ⟨s, h⟩
noncomputable def opsOk (P : Program) (call : CallF) (ops l : List Oper) (s : List AV) (h : List Blk) : Bool := match evalOps P call ops l ⟨s, h⟩ with | some _ => true | none => false
theorem opsOk_eq {P : Program} {call : CallF} {ops l : List Oper} {s : List AV} {h : List Blk} (e : opsOk P call ops l s h = true) : evalOps P call ops l ⟨s, h⟩ = some (opsSt P call ops l s h) := by
 unfold opsOk at e
 unfold opsSt
 split at e
 · rename_i st hst; rw [hst]
 · cases e
section
variable {P : Program} {call : CallF} {ops l : List Oper} {s : List AV} {h : List Blk} {K : List AV → List Blk → Prop} {KT : List AV → List Blk → List Ent → Prop}
theorem EVO.mu (n : Nat) (hk : EVO P call ops (l.drop n) (opsSt P call ops (l.take n) s h).slots (opsSt P call ops (l.take n) s h).heap K) (e : opsOk P call ops (l.take n) s h = true := by kernel_rfl) : EVO P call ops l s h K := by
 have := EVO.many (l1 := l.take n) (l2 := l.drop n) (s1 := (opsSt P call ops (l.take n) s h).slots) (h1 := (opsSt P call ops (l.take n) s h).heap) (by rw [opsOk_eq e]) hk
 rwa [List.take_append_drop] at this
noncomputable def trSt (P : Program) (call : CallF) (ops l : List Oper) (s : List AV) (h : List Blk) : St := match traceOps P call ops l ⟨s, h⟩ with | some (st, _) => st | none => ⟨s, h⟩
noncomputable def trOk (P : Program) (call : CallF) (ops l : List Oper) (s : List AV) (h : List Blk) : Bool := match traceOps P call ops l ⟨s, h⟩ with | some _ => true | none => false
theorem EVT.mu (n : Nat) (hk : EVT P call ops (l.drop n) (trSt P call ops (l.take n) s h).slots (trSt P call ops (l.take n) s h).heap (fun s' h' es => KT s' h' (trEs P call ops (l.take n) s h ++ es))) (e : trOk P call ops (l.take n) s h = true := by kernel_rfl) : EVT P call ops l s h KT := by
 have := EVT.many (l1 := l.take n) (l2 := l.drop n) (s1 := (trSt P call ops (l.take n) s h).slots) (h1 := (trSt P call ops (l.take n) s h).heap) (by
  unfold trOk at e
  unfold trSt
  split at e
  · rename_i st hst; rw [hst]
  · cases e) hk
 rwa [List.take_append_drop] at this
end
section
variable {P : Program} {K : Nat} {k : List Fr} {F : X → St → Prop} {d : Code} {i : Nat} {l : List Oper} {s : List AV} {h : List Blk}
theorem CQ.ru (G : Fine P) (hk : CQ K P k F .normal ⟨(opsSt P (callOf []) l l s h).slots, (opsSt P (callOf []) l l s h).heap⟩) (e : opsOk P (callOf []) l l s h = true := by kernel_rfl) : CQ K P (.c (.region i l.toArray false) :: k) F .normal ⟨s, h⟩ :=
 CQ.region G callOf_nil ⟨_, opsOk_eq e, hk⟩
noncomputable def opsM (P : Program) (l : List Oper) (s : List AV) (h : List Blk) (keep : List Nat) : Option St := match evalOps P (callOf []) l l ⟨s, h⟩ with | some st => some ⟨maskS keep st.slots 0, st.heap⟩ | none => none
theorem CQ.rn (G : Fine P) (keep : List Nat) (s' : List AV) (h' : List Blk) (hk : CQ K P (.c d :: k) F .normal ⟨s', h'⟩) (e : opsM P l s h keep = some ⟨s', h'⟩ := by kernel_rfl) : CQ K P (.c (.region i l.toArray false) :: .c d :: k) F .normal ⟨s, h⟩ := by
 unfold opsM at e
 split at e
 · rename_i st hst
   obtain ⟨s1, h1⟩ := st
   exact CQ.region G callOf_nil ⟨_, hst, CQ.wk ((Wk.mask keep).to (Option.some.inj e)) hk⟩
 · cases e
theorem CQ.g1 (G : Fine P) {f : FuncId} {args : List AV} {r : CRes} (c : CallOk P f args h r) (he : EVO P (callOf [{ f := f, args := args, H := h, r := r : CE }]) l l s h (fun s' h' => CQ K P k F .normal ⟨s', h'⟩)) : CQ K P (.c (.region i l.toArray false) :: k) F .normal ⟨s, h⟩ := CQ.region G (callOf_one c) he
theorem CQ.t1 (G : Fine P) {f : FuncId} {args : List AV} {r : CRes} (c : CallOk P f args h r) (he : EVT P (callOf [{ f := f, args := args, H := h, r := r : CE }]) l l s h (fun s' h' es => drawOk l es = true ∧ CQ K P k F .normal ⟨s', h'⟩)) : CQ K P (.c (.region i l.toArray true) :: k) F .normal ⟨s, h⟩ := CQ.regionT G (callOf_one c) he
end
theorem callOf_cons {P : Program} {f : FuncId} {args : List AV} {H : List Blk} {r : CRes} {L : List CE} (c : CallOk P f args H r) (cs : CallsOk P (callOf L)) : CallsOk P (callOf ({ f := f, args := args, H := H, r := r : CE } :: L)) := fun g a H' r' e => by
 simp only [callOf] at e
 split at e
 · rename_i hk
   cases e
   obtain ⟨rfl, rfl, rfl⟩ := hk
   exact c
 · exact cs g a H' r' e
theorem callOk_mutU {P : Program} {f : FuncId} {args args0 : List AV} {H H0 H1 : List Blk} {r : AV} (K m : Nat) (keep : List (Nat × Bool)) (ts : List Bool) (hrun : FnMut K P f args0 H0 r H1)
  (hpure : pureK H keep) (hpt : pureT ts H1) (hlen1 : H1.length = K + m) (hlent : ts.length = H1.length)
  (hargs : rnL keep args = args0) (hH : rnH H keep keep = H0)
  (hn : nodupK keep = true := by kernel_rfl) (hlt : keep.all (fun q => Nat.blt q.1 H.length) = true := by kernel_rfl) (hK : Nat.ble K keep.length = true := by kernel_rfl) :
  CallOk P f args H (.loc (rfA (fun k => (tgtN K keep H.length m)[k]?) r) (wsMut K keep H.length m ts H1) (keep.map (·.1)) m) :=
 callOk_mut K keep ts hrun hpure hpt hlen1 hlent hn hlt hK hargs hH rfl rfl rfl
theorem pKo {H : List Blk} {b : Nat} {l : List (Nat × Bool)} {α : Type} (c : α → List AV) (hc : ∀ x, idsOfL (c x) = []) (e : List α) (rest : pureK H l) (hb : H[b]? = some (.own (e.flatMap c)) := by kernel_rfl) : pureK H ((b, false) :: l) :=
 ⟨by rw [hb]; exact ids_flat hc e, rest⟩
def idsB : Option Blk → List Nat
 | some (.own cs) => idsOfL cs
 | some (.fix cs) => idsOfL cs
 | some (.map es) => idsOfM es
 | some (.iter ..) => [0]
 | some (.rows rs) => idsOfR rs
 | _ => []
theorem pKc {H : List Blk} {b : Nat} {l : List (Nat × Bool)} (rest : pureK H l) (hb : idsB H[b]? = [] := by kernel_rfl) : pureK H ((b, false) :: l) := by
 refine ⟨?_, rest⟩
 generalize H[b]? = o at *
 cases o with
 | none => trivial
 | some x => cases x <;> first | exact hb | trivial | (simp [idsB] at hb; done)
theorem pKt {H : List Blk} {b : Nat} {l : List (Nat × Bool)} (rest : pureK H l) : pureK H ((b, true) :: l) := rest
theorem pK0 {H : List Blk} : pureK H [] := trivial
def slH (b e : Bool) (lo hi : Nat) (f : Nat → Nat → AV) : Option ORes := ORes.ofP (match (match b with | true => some (lo, hi) | false => none), e with | some (l, h), true => some (f l h) | _, _ => none)
theorem slH_t {b : Bool} {lo hi : Nat} {f : Nat → Nat → AV} {v : AV} (h : b = true) (hv : f lo hi = v) : slH b true lo hi f = some (.pure v) := by subst h; subst hv; rfl
theorem Wk.cut (b : Nat) {K : Nat} {cs : List AV} {s : List AV} {h : List Blk} (m : Nat) (hb : h[b]? = some (.own cs)) : Wk K ⟨s, h⟩ ⟨s, h.set b (.own (cs.take m))⟩ := fun out B w π a hR => by
 have hI := hR.inv
 have hil := getElem?_lt hb
 have g : ∀ {k : Nat} {x : Blk}, (h.set b (.own (cs.take m)))[k]? = some x → (k = b ∧ x = .own (cs.take m)) ∨ (k ≠ b ∧ h[k]? = some x) := by
  intro k x hk
  by_cases hki : k = b
  · subst hki
    rw [List.getElem?_set_self hil] at hk
    exact .inl ⟨rfl, (Option.some.inj hk).symm⟩
  · rw [List.getElem?_set_ne (fun e => hki e.symm)] at hk
    exact .inr ⟨hki, hk⟩
 have old : ∀ {k : Nat} {x : Blk}, (h.set b (.own (cs.take m)))[k]? = some x → ∃ y, h[k]? = some y ∧ y.isLive = x.isLive ∧ y.isMut = x.isMut ∧ (∀ p b, x.owns p b → y.owns p b) := by
  intro k x hk
  rcases g hk with ⟨rfl, rfl⟩ | ⟨_, hk⟩
  · exact ⟨_, hb, rfl, rfl, fun _ _ h => h⟩
  · exact ⟨x, hk, rfl, rfl, fun _ _ h => h⟩
 have hmu : muOf out π (h.set b (.own (cs.take m))) = muOf out π h := by
  funext c
  apply propext
  constructor
  · rintro (hb | ⟨k, x, p, h1, h2, h3, h4⟩)
    · exact .inl hb
    · obtain ⟨y, y1, _, y3, y4⟩ := old h1
      exact .inr ⟨k, y, p, y1, by rw [y3]; exact h2, h3, y4 _ _ h4⟩
  · rintro (hb' | ⟨k, x, p, h1, h2, h3, h4⟩)
    · exact .inl hb'
    · by_cases hki : k = b
      · subst hki
        rw [hb] at h1; cases h1
        exact .inr ⟨k, .own (cs.take m), p, List.getElem?_set_self hil, rfl, h3, h4⟩
      · exact .inr ⟨k, x, p, by rw [List.getElem?_set_ne (fun e => hki e.symm)]; exact h1, h2, h3, h4⟩
 refine ⟨π, ⟨hR.defers, ?_, ?_⟩, fun b hb => ?_, PinK.refl π⟩
 · simp only [hmu]; exact hR.slots
 · refine ⟨by simpa using hI.len, hI.bound, hI.out_lt, ?_, ?_, ?_⟩
   · intro k x p b h1 h2 h3
     obtain ⟨y, y1, _, _, y4⟩ := old h1
     exact hI.baseO k y p b y1 h2 (y4 _ _ h3)
   · intro k x p h1 h2
     simp only [hmu]
     rcases g h1 with ⟨rfl, rfl⟩ | ⟨_, hk⟩
     · obtain ⟨o1, o2⟩ := hI.ok k _ p hb h2
       exact ⟨o1, RvC.take m cs _ _ o2⟩
     · exact hI.ok k x p hk h2
   · intro k l x y p q b hkl h1 h2 h3 h4 h5 h6 h7
     obtain ⟨x', x1, _, x3, x4⟩ := old h1
     obtain ⟨y', y1, _, _, y4⟩ := old h2
     exact hI.sepO k l x' y' p q b hkl x1 y1 h3 h4 (by rw [x3]; exact h5) (x4 _ _ h6) (y4 _ _ h7)
 · rw [hmu] at hb; exact hb
theorem Wk.cutS (i b : Nat) {K : Nat} {α : Type} {c : α → List AV} {es : Nat} (hc : ∀ x, (c x).length = es) (l : List α) (k : Nat) {s : List AV} {h : List Blk} (hk : k ≤ l.length) (hs : getS s i = .hs b 0 k es) (hb : h[b]? = some (.own (l.flatMap c))) :
  Wk K ⟨s, h⟩ ⟨s.set i (.hs b 0 (l.take k).length es), h.set b (.own ((l.take k).flatMap c))⟩ :=
 ((Wk.cut b (k * es) hb).to (by rw [flat_take hc])).trans (Wk.relen i (b := b) (len := k) (es := es) (l.take k).length hs (by rw [List.length_take]; omega))
theorem SnC.take {H : List Blk} {ok : Nat → Bool} {A A' : List AV} (n : Nat) (h : SnC H ok A A') : SnC H ok A (A'.take n) := fun w mu mu' π b o hL hm hv => RvC.take n _ _ _ (h w mu mu' π b o hL hm hv)
theorem Sn.hsk {H : List Blk} {ok : Nat → Bool} {b es : Nat} {α : Type} {c : α → List AV} {l : List α} {k : Nat} (hc : ∀ x, (c x).length = es) (hp : ∀ x, idsOfL (c x) = []) (hk : k ≤ l.length) (hok : ok b = true)
  (hb : H[b]? = some (.own (l.flatMap c)) ∨ H[b]? = some (.fix (l.flatMap c))) : Sn H ok (.hs b 0 k es) (slT c (l.take k)) := by
 have h := Sn.hs (len := k) (es := es) hok hb (SnC.take (k * es) (SnC.pure (ids_flat hp l))) (fun h => by subst h; simp)
 unfold slT
 rw [← flat_take hc, List.length_take, Nat.min_eq_left hk]
 exact h
attribute [irreducible] opsSt opsOk opsM trSt trOk
end Go.Eng


set_option linter.unusedVariables false
namespace Go.Eng
open Go Go.RowKit
variable [Dr]
section
variable {P : Program} {call : CallF} {ops rest : List Oper} {o : Oper} {s : List AV} {h : List Blk} {K : List AV → List Blk → Prop} {KT : List AV → List Blk → List Ent → Prop} {v : AV} {ws : List (Nat × Blk)} {f : FuncId} {args : List AV} {rd : List Nat} {n : Nat}
theorem EVO.ca (hc : call f args h = some (.loc v ws rd n)) (hk : EVO P call ops rest (putA s o.dst v) (updAll (h ++ deads n) ws) K) (hw : wantedA ops o s = some true := by kernel_rfl) (he : evalOp P (evA s) h h.length o = some (.call f args) := by kernel_rfl) : EVO P call ops (o :: rest) s h K := EVO.cal hw he hc hk
theorem EVT.ca (hc : call f args h = some (.loc v ws rd n)) (hk : EVT P call ops rest (putA s o.dst v) (updAll (h ++ deads n) ws) (fun s' h' es => KT s' h' (entC o h v ws rd n :: es))) (hw : wantedA ops o s = some true := by kernel_rfl) (he : evalOp P (evA s) h h.length o = some (.call f args) := by kernel_rfl) (hok : entOk h.length (entC o h v ws rd n) = true := by kernel_rfl) : EVT P call ops (o :: rest) s h KT := EVT.cal hw he hc hok hk
end
def CallsAt (P : Program) (h : List Blk) (F : CallF) : Prop := CallsOk P F
section
variable {P : Program} {h H : List Blk} {f : FuncId} {args : List AV} {r : CRes} {L : List CE}
theorem ca1 (c : CallOk P f args h r) (cs : CallsAt P h (callOf L)) : CallsAt P h (callOf ({ f := f, args := args, H := h, r := r : CE } :: L)) := callOf_cons c cs
theorem ca2 (H : List Blk) (c : CallOk P f args H r) (cs : CallsAt P h (callOf L)) : CallsAt P h (callOf ({ f := f, args := args, H := H, r := r : CE } :: L)) := callOf_cons c cs
theorem ca3 (c : CallOk P f args h r) : CallsAt P h (callOf [{ f := f, args := args, H := h, r := r : CE }]) := callOf_cons c callOf_nil
theorem ca4 (H : List Blk) (c : CallOk P f args H r) : CallsAt P h (callOf [{ f := f, args := args, H := H, r := r : CE }]) := callOf_cons c callOf_nil
variable {K : Nat} {k : List Fr} {F : X → St → Prop} {i : Nat} {l : List Oper} {s : List AV}
theorem CQ.gn (G : Fine P) {L : List CE} (c : CallsAt P h (callOf L)) (he : EVO P (callOf L) l l s h (fun s' h' => CQ K P k F .normal ⟨s', h'⟩)) : CQ K P (.c (.region i l.toArray false) :: k) F .normal ⟨s, h⟩ := CQ.region G c he
theorem CQ.tn (G : Fine P) {L : List CE} (c : CallsAt P h (callOf L)) (he : EVT P (callOf L) l l s h (fun s' h' es => drawOk l es = true ∧ CQ K P k F .normal ⟨s', h'⟩)) : CQ K P (.c (.region i l.toArray true) :: k) F .normal ⟨s, h⟩ := CQ.regionT G c he
theorem ok0 {r : AV} (hrun : FnOk P f args r) (hp : idsOfL args = [] := by kernel_rfl) : CallOk P f args H (.loc r [] [] 0) := callOk_ref (l := []) (SnL.pure hp) hrun
theorem cf0 {e : CE} (hH : H = e.H := by kernel_rfl) : callOf (e :: L) e.f e.args H = some e.r := callOf_at hH
theorem cfF {e : CE} (h' : callOf L f args H = some r) (hn : Nat.beq f e.f = false := by kernel_rfl) : callOf (e :: L) f args H = some r := callOf_skip (fun h _ => absurd h (fun x => by rw [show Nat.beq f e.f = true from by rw [x]; exact Nat.beq_refl _] at hn; cases hn)) h'
theorem cfA {e : CE} (hne : args = e.args → r = e.r) (h' : callOf L f args H = some r) : callOf (e :: L) f args H = some r := callOf_skip (fun _ h => hne h) h'
end
theorem sv {α : Type} {p q : Option α} {a b : α} (hp : p = some a) (hq : q = some b) (e : p = q) : a = b := Option.some.inj (hp.symm.trans (e.trans hq))
section
variable {P : Program} {K : Nat} {k : List Fr} {F : X → St → Prop} {d : Code} {i : Nat} {l : List Oper} {s : List AV} {h : List Blk}
theorem CQ.r2 (G : Fine P) (m : Nat) (q : List (Nat × AV)) (h' : List Blk) (hk : CQ K P (.c d :: k) F .normal ⟨mkS m 0 q, h'⟩) (e : opsM P l s h (q.map (·.1)) = some ⟨mkS m 0 q, h'⟩ := by kernel_rfl) : CQ K P (.c (.region i l.toArray false) :: .c d :: k) F .normal ⟨s, h⟩ := CQ.rn G _ _ _ hk e
theorem CQ.r3 (G : Fine P) (m : Nat) (q : List (Nat × AV)) (hk : CQ K P (.c d :: k) F .normal ⟨mkS m 0 q, h⟩) (e : opsM P l s h (q.map (·.1)) = some ⟨mkS m 0 q, h⟩ := by kernel_rfl) : CQ K P (.c (.region i l.toArray false) :: .c d :: k) F .normal ⟨s, h⟩ := CQ.rn G _ _ _ hk e
end
section
variable {α β : Type} {γ : Type} {δ : Type}
theorem bd2 {x : Option α} {y : α → Option β} {f : (a : α) → β → Option γ} {r : γ} (h : bdO x (fun a => bdO (y a) (f a)) = some r) : ∃ a, x = some a ∧ ∃ b, y a = some b ∧ f a b = some r := by
 obtain ⟨a, h1, h⟩ := bd h; obtain ⟨b, h2, h⟩ := bd h; exact ⟨a, h1, b, h2, h⟩
theorem bd3 {x : Option α} {y : α → Option β} {z : α → β → Option γ} {f : (a : α) → (b : β) → γ → Option δ} {r : δ} (h : bdO x (fun a => bdO (y a) (fun b => bdO (z a b) (f a b))) = some r) : ∃ a, x = some a ∧ ∃ b, y a = some b ∧ ∃ c, z a b = some c ∧ f a b c = some r := by
 obtain ⟨a, h1, b, h2, h⟩ := bd2 h; obtain ⟨c, h3, h⟩ := bd h; exact ⟨a, h1, b, h2, c, h3, h⟩
theorem gd2 {a b : Bool} {t : Option α} {r : α} (h : gdO a (gdO b t) = some r) : a = true ∧ b = true ∧ t = some r := by
 obtain ⟨h1, h⟩ := gd h; exact ⟨h1, gd h⟩
theorem gd3 {a b c : Bool} {t : Option α} {r : α} (h : gdO a (gdO b (gdO c t)) = some r) : a = true ∧ b = true ∧ c = true ∧ t = some r := by
 obtain ⟨h1, h⟩ := gd h; exact ⟨h1, gd2 h⟩
end
theorem FnOk.bd {P : Program} (G : Fine P) {f : FuncId} {fn : Func} (hf : P.funcs[f]? = some fn) {args : List AV} {r : AV} (rs : List ResultVar)
  (h : CQ 0 P [.c (fn.body.getD .skip)] (FinQ P rs r) .normal ⟨args ++ unks (fn.ntmps - args.length), []⟩) (hb : fn.body.isSome = true := by kernel_rfl) (hrs : fn.results.toList = rs := by kernel_rfl) : FnOk P f args r :=
 FnOk.body G hf (c := fn.body.getD .skip) (by cases h1 : fn.body with | none => rw [h1] at hb; cases hb | some c => rfl) rfl hrs h
theorem CQ.cd {P : Program} {K : Nat} {k : List Fr} {F : X → St → Prop} {st : St} {c : Operand} {a b : Code} {α : Type} {t : Bool} {x y : Option α} {r : α} (hr : cdO t x y = some r)
  (h1 : t = true → x = some r → CQ K P (.c a :: k) F .normal st) (h2 : t = false → y = some r → CQ K P (.c b :: k) F .normal st) (hv : evA st.slots c = .at (.bool t) := by kernel_rfl) : CQ K P (.c (.cond c a b) :: k) F .normal st :=
 CQ.cond hv (fun h => h1 h (cd_t h hr)) (fun h => h2 h (cd_f h hr))
theorem CQ.app {P : Program} {K : Nat} {k2 : List Fr} {F Q : X → St → Prop} (ha : ∀ x st', Q x st' → CQ K P k2 F x st') : ∀ (k1 : List Fr) {x : X} {st : St}, CQ K P k1 Q x st → CQ K P (k1 ++ k2) F x st
 | [], _, _, h => ha _ _ h
 | .c d :: k1, .normal, st, h => SC.mono (show SC K P st d (CQ K P k1 Q) from h) fun x st' h' => CQ.app ha k1 h'
 | .c d :: k1, .exit j, st, h => CQ.app ha k1 (x := .exit j) h
 | .c d :: k1, .ret, st, h => CQ.app ha k1 (x := .ret) h
 | .b i :: k1, .normal, st, h => CQ.app ha k1 (x := .normal) h
 | .b i :: k1, .ret, st, h => CQ.app ha k1 (x := .ret) h
 | .b i :: k1, .exit j, st, h => by
  simp only [CQ, List.cons_append] at h ⊢
  split at h
  · exact CQ.app ha k1 h
  · exact CQ.app ha k1 h
theorem CQ.app1 {P : Program} {K : Nat} {k : List Fr} {F Q : X → St → Prop} {st : St} {a : Code} (h : CQ K P [.c a] Q .normal st) (ha : ∀ x st', Q x st' → CQ K P k F x st') : CQ K P (.c a :: k) F .normal st := CQ.app ha [.c a] h
theorem CQ.app2 {P : Program} {K : Nat} {k : List Fr} {F Q : X → St → Prop} {st : St} {a b : Code} (h : CQ K P [.c a, .c b] Q .normal st) (ha : ∀ x st', Q x st' → CQ K P k F x st') : CQ K P (.c a :: .c b :: k) F .normal st := CQ.app ha [.c a, .c b] h
abbrev nS : AV := .at (.slice none 0 0)
theorem gdn {α : Type} {b : Bool} {t : Option α} {r : α} (h : gdO (!b) t = some r) : b = false ∧ t = some r := by
 obtain ⟨h1, h2⟩ := gd h
 exact ⟨by simpa using h1, h2⟩
theorem CQ.cN {P : Program} {K : Nat} {k : List Fr} {F : X → St → Prop} {st : St} {c : Operand} {a b : Code} {t : Bool} (h : t = false) (hk : CQ K P (.c b :: k) F .normal st) (hv : evA st.slots c = .at (.bool t) := by kernel_rfl) : CQ K P (.c (.cond c a b) :: k) F .normal st :=
 CQ.cond hv (fun e => by rw [h] at e; cases e) (fun _ => hk)
def overT {α : Type} (l : List α) (a : Nat) (ys : List α) : List α := (l.take a ++ ys ++ l.drop (a + ys.length)).take l.length
@[simp] theorem overT_len {α : Type} (l : List α) (a : Nat) (ys : List α) : (overT l a ys).length = l.length := by
 unfold overT
 simp only [List.length_take, List.length_append, List.length_drop]
 omega
theorem overT_eq {α : Type} {l : List α} {a : Nat} {ys : List α} (h : a + ys.length ≤ l.length) : overT l a ys = l.take a ++ ys ++ l.drop (a + ys.length) := by
 unfold overT
 refine List.take_of_length_le ?_
 simp only [List.length_take, List.length_append, List.length_drop]
 omega
theorem setCells_eq : ∀ (xs cs : List AV) (off : Nat), off + xs.length ≤ cs.length → setCells cs off xs = cs.take off ++ xs ++ cs.drop (off + xs.length)
 | [], cs, off, _ => by simp [setCells]
 | x :: xs, cs, off, h => by
  have hl : off < cs.length := by simp at h; omega
  rw [setCells, setCells_eq xs (cs.set off x) (off + 1) (by simp at h ⊢; omega)]
  rw [List.take_set, List.drop_set_of_lt (by omega), List.take_add_one, List.getElem?_eq_getElem hl]
  have e : (cs.take off ++ (some cs[off]).toList).set off x = cs.take off ++ [x] := by
   have : (cs.take off).length = off := by rw [List.length_take]; omega
   rw [List.set_append_right _ _ (by omega), this]; simp
  rw [e]
  simp [List.append_assoc, Nat.add_assoc, Nat.add_comm 1]
def clS (g : Bool) (b : Nat) (cs : List AV) : Option ORes := match g with | true => some (.eff (.at (.tuple #[])) [(b, .own cs)]) | false => none
theorem cl_t {α : Type} {c : α → List AV} {es : Nat} (hc : ∀ x, (c x).length = es) {l : List α} {z : α} {zc : List AV} {b len off a : Nat} (hz : zc = c z) (hoff : off = a * es) (hl : a + len ≤ l.length) :
  clS (true && decide (off + len * es ≤ (l.flatMap c).length) && true && true && true) b (setCells (l.flatMap c) off (zerosA zc len)) = some (.eff (.at (.tuple #[])) [(b, .own ((overT l a (List.replicate len z)).flatMap c))]) := by
 subst hoff; subst hz
 have h1 : a * es + len * es ≤ (l.flatMap c).length := by rw [flat_len hc, ← Nat.add_mul]; exact Nat.mul_le_mul_right _ hl
 have hy : (List.replicate len z).length = len := List.length_replicate
 unfold clS
 simp only [decide_eq_true h1]
 rw [flat_zero, setCells_eq _ _ _ (by rw [flat_len hc, hy]; exact h1), overT_eq (by rw [hy]; exact hl)]
 rw [flat_len hc, hy, flat_take hc, ← Nat.add_mul, flat_drop hc, List.flatMap_append, List.flatMap_append]
 rfl
theorem inS_lo {lo : Int} {n : Nat} (h : inS lo (n : Int) n = true) : lo.toNat + (n - lo.toNat) ≤ n := by
 simp only [inS, Bool.and_eq_true, decide_eq_true_eq] at h; omega
def FinMW (K : Nat) (P : Program) (rs : List ResultVar) (us : List AV) (H1 : List Blk) : X → St → Prop := fun x st => ∃ T, Wk K st T ∧ FinM K P rs us H1 x T
theorem FinMW.ret {K : Nat} {P : Program} {rs : List ResultVar} {us : List AV} {H1 : List Blk} {st : St} (vs : List AV) (k : Wk K ⟨vs, st.heap⟩ ⟨us, H1⟩) (h : resultsA P st rs = some vs := by kernel_rfl) : FinMW K P rs us H1 .ret st := ⟨st, Wk.refl st, FinM.ret vs k h⟩
theorem FinMW.normal {K : Nat} {P : Program} {rs : List ResultVar} {us : List AV} {H1 : List Blk} {st : St} (vs : List AV) (k : Wk K ⟨vs, st.heap⟩ ⟨us, H1⟩) (h : resultsA P st rs = some vs := by kernel_rfl) : FinMW K P rs us H1 .normal st := ⟨st, Wk.refl st, FinM.normal vs k h⟩
theorem FinMW.wk {K : Nat} {P : Program} {rs : List ResultVar} {us : List AV} {H1 : List Blk} {x : X} {st T : St} (hw : Wk K st T) (h : FinMW K P rs us H1 x T) : FinMW K P rs us H1 x st := by
 obtain ⟨U, h1, h2⟩ := h
 exact ⟨U, hw.trans h1, h2⟩
theorem SC.closeW {K : Nat} {P : Program} {st : St} {c : Code} {Q : X → St → Prop} (h : SC K P st c (fun x st' => ∃ T, Wk K st' T ∧ Q x T)) : SC K P st c Q := fun out B w π a R hR hr => h out B w π a R hR fun x st' a' w' π' hq hR' hE => by
 obtain ⟨T, hw, hq⟩ := hq
 obtain ⟨π2, g1, g2, g3⟩ := hw out B w' π' a' hR'
 exact hr x T a' w' π2 hq g1 (hE.trans (EK.less g2 g3))
theorem FnMut.bodyW {K : Nat} {P : Program} (G : Fine P) {f : FuncId} {fn : Func} (hf : P.funcs[f]? = some fn) {c : Code} (hb : fn.body = some c) {args us : List AV} {H0 H1 : List Blk} {s : List AV} {rs : List ResultVar} (hs : args ++ unks (fn.ntmps - args.length) = s) (hrs : fn.results.toList = rs)
  (h : CQ K P [.c c] (FinMW K P rs us H1) .normal ⟨s, H0⟩) : FnMut K P f args H0 (packA us) H1 := FnMut.body G hf hb hs hrs (SC.closeW h)
section
variable {K : Nat}
end
theorem app_zero {α : Type} {c : α → List AV} {es : Nat} {z : α} {zc : List AV} {n : Int} {nid by_ : Nat} (hz : zc = c z) (h : decide (0 < n) = true) (h2 : decide (n ≤ 4611686018427387904) = true) (h3 : decide (n.toNat * by_ ≤ 140737488355328) = true) :
  guardO (decide (0 < n) && decide (n ≤ 4611686018427387904) && decide (n.toNat * by_ ≤ 140737488355328) && true && true && true) (some (.eff (.hs nid 0 n.toNat es) [(nid, .own (zerosA zc n.toNat))])) =
   some (.eff (.hs nid 0 (List.replicate n.toNat z).length es) [(nid, .own ((List.replicate n.toNat z).flatMap c))]) := by
 subst hz
 rw [h, h2, h3, flat_zero, List.length_replicate]; rfl
end Go.Eng
namespace Go.L
open Go Go.Eng
variable [Dr]
def insZ (x : Int) : List Int → List Int
 | [] => [x]
 | y :: l => if x ≤ y then x :: y :: l else y :: insZ x l
def isrt : List Int → List Int
 | [] => []
 | x :: l => insZ x (isrt l)
end Go.L


set_option linter.all false
namespace Go.Eng
open Go Go.RowKit
variable [Dr]
theorem arr_get {k : IntKind} {xs : List Int} {j : Int} (h : inR j xs.length = true) : (xs.flatMap (iC k))[j.toNat]? = some (.at (.int k (gt xs j))) :=
 flat_get (c := iC k) (es := 1) (i := j.toNat) (k := 0) (iC_len k) (inR_lt h) (by omega) (by omega) rfl
theorem arr_getO {k : IntKind} {cs : List AV} {xs : List Int} {j : Int} {o kk : Nat} (h : inR j xs.length = true) (ho : o = kk + j.toNat * 1) (hx : (cs.drop kk).take xs.length = xs.flatMap (iC k)) : cs[o]? = some (.at (.int k (gt xs j))) := by
 have h1 := inR_lt h
 have h2 := arr_get (k := k) h
 rw [← hx, List.getElem?_take, if_pos h1, List.getElem?_drop] at h2
 rw [ho, Nat.mul_one]; exact h2
section
variable {α : Type} {c : α → List AV} {es : Nat} {l : List α}
theorem flat_getA [Inhabited α] (hc : ∀ x, (c x).length = es) {i kk off : Nat} {k : IntKind} {xs : List Int} {j : Int} (hi : i < l.length) (hj : inR j xs.length = true) (ho : off = i * es + kk + j.toNat * 1) (hm : kk + xs.length ≤ es)
  (hx : ((c (l.getD i default)).drop kk).take xs.length = xs.flatMap (iC k)) : (l.flatMap c)[off]? = some (.at (.int k (gt xs j))) := by
 have h1 := inR_lt hj
 exact flat_get hc (k := kk + j.toNat) hi (by omega) (by omega) (arr_getO hj (by omega) hx)
theorem ppE_to [Inhabited α] (hc : ∀ x, (c x).length = es) {i : Int} {off : Nat} (h : inR i l.length = true) (ho : off = i.toNat * es) (w : World) (mu : Nat → Prop) (π : List (Option PB)) (u : Value) (hv : Rv w mu π (.pp (l.flatMap c) off) u) : Rv w mu π (.pp (c (gt l i)) 0) u := by
 obtain ⟨b, o, rfl, h1, h2⟩ := hv
 have hp := flat_part (l := l) hc (i := i.toNat) (j := off) (k := 0) (n := es) (inR_lt h) (by omega) (by omega)
 rw [List.drop_zero, List.take_of_length_le (l := c (l.getD i.toNat default)) (by rw [hc]; exact Nat.le_refl _)] at hp
 have h3 := RvC.take es _ _ _ (RvC.drop off _ _ _ h2)
 rw [hp] at h3
 refine ⟨b, o + off, by rw [Nat.add_zero], fun hne => h1 fun he => hne ?_, h3⟩
 have : (c (gt l i)) = ((l.flatMap c).drop off).take es := hp.symm
 rw [this, he]; simp
theorem Sn.to {H : List Blk} {ok : Nat → Bool} {A A' A'' : AV} (h : Sn H ok A A') (k : ∀ (w : World) (mu : Nat → Prop) (π : List (Option PB)) (u : Value), Rv w mu π A' u → Rv w mu π A'' u) : Sn H ok A A'' := fun w mu mu' π v hL hm hv => k _ _ _ _ (h w mu mu' π v hL hm hv)
theorem Sn.ppE [Inhabited α] {H : List Blk} {ok : Nat → Bool} (hc : ∀ x, (c x).length = es) {i : Int} {off : Nat} (h : inR i l.length = true) (ho : off = i.toNat * es) : Sn H ok (.pp (l.flatMap c) off) (.pp (c (gt l i)) 0) := (Sn.pure rfl).to (ppE_to hc h ho)
end
def shlF (k : IntKind) (x y : Int) : Int := wrapF k (x * 2 ^ (min y.toNat k.bits))
def shrF (k : IntKind) (x y : Int) : Int := x.fdiv (2 ^ (min y.toNat k.bits))
section
variable {P : Program} {ρ : Operand → AV} {H : List Blk} {nid : Nat} {dst : Option Tmp} {ty t u : TypeId} {pos : String} {after : Array Edge} {g : Option (Nat × Bool)} {a b : Operand} {k k' : IntKind} {x y : Int}
theorem binSlow_at {op : BinOp} {v : Value} (h : pureRun P (do eqGuard op t a b (.int k x) (.int k' y); binOp op t (.int k x) (.int k' y)) = some v) (hi : intOpA op k x y = none) : binOpA P op t a b (.at (.int k x)) (.at (.int k' y)) = some (.at v) := by
 unfold binOpA
 simp only [hi]
 cases IntKind.beqA k k' <;> simp only [binSlow, toV, h]
theorem op_shl (ha : ρ a = .at (.int k x)) (hb : ρ b = .at (.int k' y)) (h : decide (0 ≤ y) = true) : evalOp P ρ H nid ⟨dst, .binOp .shl t a b u, ty, pos, after, g⟩ = some (.pure (.at (.int k (shlF k x y)))) := by
 show ORes.ofP (binOpA P .shl t a b (ρ a) (ρ b)) = _
 rw [ha, hb, binSlow_at (v := .int k (shlF k x y)) ?_ rfl]; rfl
 have hn : ¬ y < 0 := by have := of_decide_eq_true h; omega
 simp [eqGuard, binOp, Op.shift, hn, shlF, wrapF_eq]
 rfl
theorem op_shr (ha : ρ a = .at (.int k x)) (hb : ρ b = .at (.int k' y)) (h : decide (0 ≤ y) = true) : evalOp P ρ H nid ⟨dst, .binOp .shr t a b u, ty, pos, after, g⟩ = some (.pure (.at (.int k (shrF k x y)))) := by
 show ORes.ofP (binOpA P .shr t a b (ρ a) (ρ b)) = _
 rw [ha, hb, binSlow_at (v := .int k (shrF k x y)) ?_ rfl]; rfl
 have hn : ¬ y < 0 := by have := of_decide_eq_true h; omega
 simp [eqGuard, binOp, Op.shift, hn, shrF]
 rfl
end
theorem CQ.nh {K : Nat} {P : Program} {k : List Fr} {F : X → St → Prop} {d : Code} {s : List AV} {h : List Blk} (ks : List Nat) (h' : List Blk) (hk : CQ K P (.c d :: k) F .normal ⟨maskS ks s 0, h'⟩) (e2 : h = h' := by kernel_rfl) : CQ K P (.c d :: k) F .normal ⟨s, h⟩ := CQ.norm ks rfl e2 hk
def setAll (s : List AV) : List (Nat × AV) → List AV
 | [] => s
 | (i, x) :: q => setAll (s.set i x) q
theorem CQ.r4 {K : Nat} {P : Program} {k : List Fr} {F : X → St → Prop} {d : Code} {s : List AV} {h : List Blk} {i : Nat} {l : List Oper} (G : Fine P) (ks : List Nat) (q : List (Nat × AV)) (hk : CQ K P (.c d :: k) F .normal ⟨setAll (maskS ks s 0) q, h⟩) (e : opsM P l s h (ks ++ q.map (·.1)) = some ⟨setAll (maskS ks s 0) q, h⟩ := by kernel_rfl) : CQ K P (.c (.region i l.toArray false) :: .c d :: k) F .normal ⟨s, h⟩ := CQ.rn G _ _ _ hk e
theorem CQ.r5 {K : Nat} {P : Program} {k : List Fr} {F : X → St → Prop} {d : Code} {s : List AV} {h : List Blk} {i : Nat} {l : List Oper} (G : Fine P) (ks : List Nat) (q : List (Nat × AV)) (h' : List Blk) (hk : CQ K P (.c d :: k) F .normal ⟨setAll (maskS ks s 0) q, h'⟩) (e : opsM P l s h (ks ++ q.map (·.1)) = some ⟨setAll (maskS ks s 0) q, h'⟩ := by kernel_rfl) : CQ K P (.c (.region i l.toArray false) :: .c d :: k) F .normal ⟨s, h⟩ := CQ.rn G _ _ _ hk e
theorem oi {α : Type} {x y : α} (h : some x = some y) : x = y := Option.some.inj h
theorem tr {α : Type} {x y z : α} (h : y = z) (hx : x = y := by kernel_rfl) : x = z := hx.trans h
theorem eB {x : Option ORes} {e b : Bool} (h : e = b) (hx : x = some (.pure (.at (.bool e))) := by kernel_rfl) : x = some (.pure (.at (.bool b))) := by rw [hx, h]
section
variable {P : Program} {call : CallF} {ops rest : List Oper} {o : Oper} {s : List AV} {h : List Blk} {K : List AV → List Blk → Prop} {KT : List AV → List Blk → List Ent → Prop}
theorem EVO.ek {v : AV} {ws : List (Nat × Blk)} (he : evalOp P (evA s) h h.length o = some (.eff v ws)) (hk : EVO P call ops rest (putA s o.dst v) (updAll h ws) K) (hw : wantedA ops o s = some true := by kernel_rfl) : EVO P call ops (o :: rest) s h K := EVO.eff hw he hk
theorem EVT.ek {v : AV} {ws : List (Nat × Blk)} (he : evalOp P (evA s) h h.length o = some (.eff v ws)) (hk : EVT P call ops rest (putA s o.dst v) (updAll h ws) (fun s' h' es => KT s' h' (entP o s h v ws :: es))) (hw : wantedA ops o s = some true := by kernel_rfl) (hok : entOk h.length (entP o s h v ws) = true := by kernel_rfl) : EVT P call ops (o :: rest) s h KT := EVT.eff hw he hok hk
end
theorem oj {α : Type} {x y : α} (h : some x = some y) : y = x := (Option.some.inj h).symm
theorem z1 : 0 < 1 := by decide
end Go.Eng

