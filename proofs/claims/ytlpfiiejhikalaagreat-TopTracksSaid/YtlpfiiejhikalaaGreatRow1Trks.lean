import Derived.Test.YtlpfiiejhikalaaGreatSc3Trks
import Derived.OpenShut
import Derived.RowKit
set_option linter.all false
namespace Go.Eng
open Go Go.ChangeShapes Go.WideShapes
variable [Dr]
def mU : Nat -> Prop := fun _ => False
def Bl (v : Value) : Prop := ∀ a len cap, v = .slice (some a) len cap -> a.spot = none
section
variable {H : Type} (enc : TypeId × Value -> H) (P : Program) (W : World)
def dq (b : Bool) (t : TypeId) (n : Nat) {X : Type} (c : X -> List AV) (wf : X -> Prop) : Prop :=
 P.cellsOf t = n /\ ∀ fuel vs x, (b = true -> ∀ v ∈ vs, Bl v) -> DataW.trod enc P W 0 (fun _ => true) true fuel t vs = some x ->
  ∃ a, wf a /\ RvL W mU [] (c a) vs /\ ∀ v ∈ vs, v.oneCell' = true
def c7 (b : Bool) (l : List (TypeId × Nat)) (o n : Nat) {X : Type} (c : X -> List AV) (wf : X -> Prop) : Prop :=
 ∀ vs : List Value, vs.length = o + n -> (b = true -> ∀ v ∈ vs, Bl v) -> (∀ p ∈ l, ∃ fuel x, DataW.trod enc P W 0 (fun _ => true) true fuel p.1 ((vs.drop p.2).take (P.cellsOf p.1)) = some x) ->
  ∃ a, wf a /\ RvL W mU [] (c a) (vs.drop o) /\ ∀ v ∈ vs.drop o, v.oneCell' = true
end
section
variable {H : Type} {enc : TypeId × Value -> H} {P : Program} {W : World}
theorem dq.int {b : Bool} {t : TypeId} {k : IntKind} (ht : P.underlying t = some (.int k)) (hc : P.cellsOf t = 1) : dq enc P W b t 1 (iC k) (fun n => (Lit.int k n).wf = true) := by
 refine ⟨hc, fun fuel vs x _ h => ?_⟩
 obtain ⟨n, rfl, _, hw⟩ := DataW.trod_int ht h
 exact ⟨n, hw, ⟨_, _, rfl, rfl, rfl⟩, fun v hv => by cases List.mem_singleton.1 hv; rfl⟩
theorem dq.bool {b : Bool} {t : TypeId} (ht : P.underlying t = some .bool) (hc : P.cellsOf t = 1) : dq enc P W b t 1 bC (fun _ => True) := by
 refine ⟨hc, fun fuel vs x _ h => ?_⟩
 obtain ⟨n, rfl, _⟩ := DataW.trod_bool ht h
 exact ⟨n, trivial, ⟨_, _, rfl, rfl, rfl⟩, fun v hv => by cases List.mem_singleton.1 hv; rfl⟩
theorem dq.map {b : Bool} {t : TypeId} {n : Nat} {X Y : Type} {c : X -> List AV} {wf : X -> Prop} {c' : Y -> List AV} {wf' : Y -> Prop} (h : dq enc P W b t n c wf) (f : X -> Y) (hc : ∀ x, c' (f x) = c x) (hw : ∀ x, wf x -> wf' (f x)) : dq enc P W b t n c' wf' := by
 refine ⟨h.1, fun fuel vs x hb hx => ?_⟩
 obtain ⟨a, h1, h2, h3⟩ := h.2 fuel vs x hb hx
 exact ⟨f a, hw a h1, by rw [hc]; exact h2, h3⟩
theorem c7.nil {b : Bool} {l : List (TypeId × Nat)} {o : Nat} : c7 enc P W b l o 0 (fun _ : Unit => []) (fun _ => True) := by
 intro vs hl _ _
 rw [List.drop_of_length_le (by omega)]
 exact ⟨(), trivial, rfl, by simp⟩
theorem c7.cons {b : Bool} {t : TypeId} {l : List (TypeId × Nat)} {o n m : Nat} {X Y : Type} {c : X -> List AV} {wf : X -> Prop} {c' : Y -> List AV} {wf' : Y -> Prop} (h : dq enc P W b t n c wf) (k : c7 enc P W b l (o + n) m c' wf') : c7 enc P W b ((t, o) :: l) o (n + m) (fun p : X × Y => c p.1 ++ c' p.2) (fun p => wf p.1 /\ wf' p.2) := by
 intro vs hl hb hr
 obtain ⟨fuel, x, hx⟩ := hr (t, o) (by simp)
 rw [h.1] at hx
 obtain ⟨a, a1, a2, a3⟩ := h.2 fuel _ x (fun e v hv => hb e v (List.mem_of_mem_drop (List.mem_of_mem_take hv))) hx
 obtain ⟨a', b1, b2, b3⟩ := k vs (by omega) hb (fun p hp => hr p (by simp [hp]))
 have e : vs.drop o = (vs.drop o).take n ++ vs.drop (o + n) := by rw [<- List.drop_drop, List.take_append_drop]
 refine ⟨(a, a'), ⟨a1, b1⟩, ?_, fun v hv => ?_⟩
 · rw [e]; exact RvL.append _ _ _ _ a2 b2
 · rw [e] at hv
   rcases List.mem_append.1 hv with hv | hv
   · exact a3 v hv
   · exact b3 v hv
theorem vC {t : TypeId} {l : List (TypeId × Nat)} (h : (match P.underlying t with | some (.struct fs) => some (fs.toList.map fun f => (f.type, f.offset)) | _ => none) = some l) : ∃ fs : Array Field, P.underlying t = some (.struct fs) /\ (fs.toList.map fun f => (f.type, f.offset)) = l := by
 split at h
 · rename_i fs hfs; simp only [Option.some.injEq] at h; exact ⟨fs, hfs, h⟩
 · cases h
theorem dq.struct {b : Bool} {t : TypeId} {l : List (TypeId × Nat)} {n : Nat} {X : Type} {c : X -> List AV} {wf : X -> Prop} (h : (match P.underlying t with | some (.struct fs) => some (fs.toList.map fun f => (f.type, f.offset)) | _ => none) = some l) (hn : P.cellsOf t = n) (k : c7 enc P W b l 0 n c wf) : dq enc P W b t n c wf := by
 obtain ⟨fs, hfs, rfl⟩ := vC h
 refine ⟨hn, fun fuel vs x hb hx => ?_⟩
 obtain ⟨xs, m, _, _, hl, hxs, hf⟩ := DataW.trod_struct hfs hx
 refine k vs (by omega) hb fun p hp => ?_
 obtain ⟨f, hfm, rfl⟩ := List.mem_map.1 hp
 obtain ⟨i, hi⟩ := List.getElem?_of_mem hfm
 rw [Array.getElem?_toList] at hi
 have hlt : i < fs.size := (Array.getElem?_eq_some_iff.1 hi).1
 have := hf i f hi
 rw [geT (by omega)] at this
 exact ⟨_, _, this⟩
theorem dq.array {b : Bool} {t e : TypeId} {m n k : Nat} {X : Type} {c : X -> List AV} {wf : X -> Prop} (ht : P.underlying t = some (.array m e)) (hn : P.cellsOf t = n) (he : P.cellsOf e = k) (h : c7 enc P W b ((List.range m).map fun i => (e, i * k)) 0 n c wf) : dq enc P W b t n c wf := by
 refine ⟨hn, fun fuel vs x hb hx => ?_⟩
 obtain ⟨xs, q, _, _, hl, hxs, hf⟩ := DataW.trod_array ht hx
 refine h vs (by omega) hb fun p hp => ?_
 obtain ⟨i, hi, rfl⟩ := List.mem_map.1 hp
 rw [List.mem_range] at hi
 have := hf i hi
 rw [he, geT (by omega)] at this
 exact ⟨_, _, by simpa [he] using this⟩
theorem RvC.wO {w : World} {mu : Nat -> Prop} {Z : List (Option PB)} : ∀ (cs ds : List AV) (b o : Nat), RvC w mu Z cs b o -> RvC w mu Z ds b (o + cs.length) -> RvC w mu Z (cs ++ ds) b o
 | [], ds, b, o, _, k => k
 | c :: cs, ds, b, o, h, k => ⟨h.1, RvC.wO cs ds b (o + 1) h.2 (by rw [List.length_cons] at k; rwa [show o + 1 + cs.length = o + (cs.length + 1) by omega])⟩
theorem collect {X : Type} {c : X -> List AV} {wf : X -> Prop} {b m : Nat} : ∀ (len o : Nat), (∀ i, i < len -> ∃ a, wf a /\ (c a).length = m /\ RvC W mU [] (c a) b (o + i * m)) -> ∃ l : List X, l.length = len /\ (∀ a ∈ l, wf a) /\ RvC W mU [] (l.flatMap c) b o
 | 0, o, _ => ⟨[], rfl, by simp, trivial⟩
 | len + 1, o, h => by
  obtain ⟨a, a1, a2, a3⟩ := h 0 (by omega)
  obtain ⟨l, l1, l2, l3⟩ := collect len (o + m) (fun i hi => by
   obtain ⟨a, h1, h2, h3⟩ := h (i + 1) (by omega)
   refine ⟨a, h1, h2, ?_⟩
   rw [Nat.add_mul, Nat.one_mul] at h3
   rwa [show o + m + i * m = o + (i * m + m) by omega])
  refine ⟨a :: l, by simp [l1], fun u hu => ?_, ?_⟩
  · rcases List.mem_cons.1 hu with rfl | hu
    · exact a1
    · exact l2 u hu
  · rw [List.flatMap_cons]
    refine RvC.wO _ _ _ _ (by simpa using a3) ?_
    rw [a2]; exact l3
theorem dq.slice {b : Bool} {t e : TypeId} {m : Nat} {X : Type} {c : X -> List AV} {wf : X -> Prop} (ht : P.underlying t = some (.slice e)) (hc : P.cellsOf t = 1) (he : dq enc P W false e m c wf) (hm0 : 0 < m := by decide) :
  dq enc P W b t 1 (fun l => [slT c l]) (fun l => l.length <= maxLen /\ ∀ a ∈ l, wf a) := by
 refine ⟨hc, fun fuel vs x _ h => ?_⟩
 rcases DataW.trod_slice ht h with ⟨rfl, _⟩ | ⟨a, len, cap, elems, rest, n, _, rfl, rfl, hbk, hl, hm, hlen, hel, _⟩
 · exact ⟨[], ⟨by simp, by simp⟩, ⟨_, _, rfl, .inl ⟨rfl, rfl, rfl, rfl⟩, rfl⟩, fun v hv => by cases List.mem_singleton.1 hv; rfl⟩
 rw [he.1] at hel
 by_cases hl0 : len = 0
 · subst hl0
   exact ⟨[], ⟨by simp, by simp⟩, ⟨_, _, rfl, .inr (.inr ⟨rfl, rfl, a, cap, rfl⟩), rfl⟩, fun v hv => by cases List.mem_singleton.1 hv; rfl⟩
 have hs : a.spot = none := by
  have h1 := hel 0 (by omega)
  rw [geT (by omega), Option.bind_eq_some_iff] at h1
  obtain ⟨cs, h2, h3⟩ := h1
  obtain ⟨_, g1, g2⟩ := World.cells?_some h2
  have := g2 0 hm0
  rw [geT (by omega)] at this
  obtain ⟨ab, ao, asp⟩ := a
  cases asp with
  | none => rfl
  | some s =>
   exfalso
   revert this
   simp only [World.cell?, Addr.add, Nat.zero_mul]
   split <;> simp
 obtain ⟨ab, ao, asp⟩ := a
 simp only at hs; subst hs
 obtain ⟨l, l1, l2, l3⟩ := collect (W := W) (c := c) (wf := wf) (b := ab) (m := m) len ao (fun i hi => by
  have h1 := hel i hi
  rw [geT (by omega), Option.bind_eq_some_iff] at h1
  obtain ⟨cs, h2, h3⟩ := h1
  obtain ⟨u, u1, u2, u3⟩ := he.2 _ _ _ (fun e => by cases e) h3
  obtain ⟨_, g1, g2⟩ := World.cells?_some h2
  refine ⟨u, u1, by rw [<- RvL.length _ _ u2, g1], ff _ _ _ _ u2 u3 fun j v hj => ?_⟩
  have hjl : j < m := by rw [<- g1]; exact (List.getElem?_eq_some_iff.1 hj).1
  have := g2 j hjl
  rw [hj] at this
  rw [<- this]
  congr 1
  unfold Addr.add
  by_cases h0 : i * m = 0 <;> by_cases h1 : j = 0 <;> simp [h0, h1, Nat.add_assoc])
 refine ⟨l, ⟨by omega, l2⟩, ⟨_, _, rfl, .inr (.inl ⟨ab, ao, cap, by rw [l1], by omega, fun _ h => h, l3⟩), rfl⟩, fun v hv => by cases List.mem_singleton.1 hv; rfl⟩
theorem oU {r : Reach} {base : Nat} {t : TypeId} {v : Value} (h : Cell.okWide P W r base t v) : Bl v := by
 rintro a len cap rfl
 unfold Cell.okWide at h
 split at h <;> try (rename_i h1; cases h1)
 unfold Cell.ok at h
 split at h <;> first | (exact h.elim) | (rename_i h1; cases h1; try exact h.2.2.2.1) | skip
 all_goals (rename_i h1 h2; cases h1; try exact h.2.2.2.1)
end
def isAgg (P : Program) (t : TypeId) : Bool := match P.underlying t with | some (.struct _) | some (.array _ _) => true | _ => false
def Arg {H : Type} (enc : TypeId × Value -> H) (P : Program) (W : World) (t : TypeId) {X : Type} (r : X -> AV) (wf : X -> Prop) : Prop :=
 ∀ base v d p, Value.okWide P W .any base t v -> DataW.Trod enc P W 0 (fun _ => true) true t v d p -> ∃ a, wf a /\ Rv W mU [] (r a) v
section
variable {H : Type} {enc : TypeId × Value -> H} {P : Program} {W : World}
theorem dq.agg {t : TypeId} {n : Nat} {X : Type} {c : X -> List AV} {wf : X -> Prop} (h : dq enc P W true t n c wf) (ha : isAgg P t = true) : Arg enc P W t (fun a => .agg (c a)) wf := by
 intro base v d p hv hr
 obtain ⟨cs, rfl, _, ts, _, _, hc⟩ : ∃ cs, v = .agg cs /\ cs.size = P.cellsOf t /\ Row.okWide P W .any base t cs := by
  unfold Value.okWide at hv; unfold isAgg at ha
  split at ha <;> rename_i hu
  · rw [hu] at hv; exact hv
  · rw [hu] at hv; exact hv
  · cases ha
 obtain ⟨fuel, hx⟩ := hr
 obtain ⟨a, h1, h2, _⟩ := h.2 fuel cs.toList _ (fun _ v hm => by
  obtain ⟨i, hi⟩ := List.getElem?_of_mem hm
  rw [Array.getElem?_toList] at hi
  obtain ⟨u, _, hk⟩ := hc i v hi
  exact oU hk) hx
 exact ⟨a, h1, cs, rfl, h2⟩
theorem dq.one {t : TypeId} {X : Type} {r : X -> AV} {wf : X -> Prop} (h : dq enc P W true t 1 (fun a => [r a]) wf) (ha : isAgg P t = false) : Arg enc P W t r wf := by
 intro base v d p hv hr
 have hv : Cell.okWide P W .any base t v := by
  unfold Value.okWide at hv; unfold isAgg at ha
  split at hv <;> rename_i hu
  · rw [hu] at ha; cases ha
  · rw [hu] at ha; cases ha
  · exact hv
 have hc : v.cells.toList = [v] := by
  cases v <;> first | rfl | skip
  rename_i cs
  unfold Cell.okWide at hv
  split at hv <;> try (rename_i h1; cases h1)
  unfold Cell.ok at hv
  split at hv <;> first | exact hv.elim | (rename_i h1; cases h1) | (rename_i h1 _; cases h1)
 obtain ⟨fuel, hx⟩ := hr
 rw [hc] at hx
 obtain ⟨a, h1, h2, _⟩ := h.2 fuel [v] _ (fun _ u hm => by cases List.mem_singleton.1 hm; exact oU hv) hx
 obtain ⟨_, _, e, h3, _⟩ := h2
 cases e
 exact ⟨a, h1, h3⟩
end
end Go.Eng

