import Derived.Test.YtlpfiiejhikalaaGreatScMTrks
import Derived.Test.YtlpfiiejhikalaaGreatSc3Trks
import Derived.Maps.RangeRun
set_option linter.all false
set_option linter.unusedVariables false
namespace Go.L
open Go Go.Eng
def jD {ε σ : Type} (f : σ -> ε -> Option σ) : σ -> List ε -> Option σ
 | s, [] => some s
 | s, e :: l => bdO (f s e) fun s' => jD f s' l
open Classical in
noncomputable def xD {ε σ β : Type} (es : List ε) (f : σ -> ε -> Option σ) (s0 : σ) (g : σ -> Option β) : Option β :=
 if h : ∃ r, ∀ p : List ε, p.Perm es -> bdO (jD f s0 p) g = some r then some h.choose else none
theorem yz {ε σ β : Type} {es : List ε} {f : σ -> ε -> Option σ} {s0 : σ} {g : σ -> Option β} {r : β} (h : xD es f s0 g = some r) : ∀ p : List ε, p.Perm es -> bdO (jD f s0 p) g = some r := by
 unfold xD at h
 split at h
 · rename_i hx
   have := hx.choose_spec
   cases h
   exact this
 · cases h
theorem zN {ε σ β : Type} {es : List ε} {f : σ -> ε -> Option σ} {s0 : σ} {g : σ -> Option β} {r : β} (h : ∀ p : List ε, p.Perm es -> bdO (jD f s0 p) g = some r) : xD es f s0 g = some r := by
 unfold xD
 have hx : ∃ r, ∀ p : List ε, p.Perm es -> bdO (jD f s0 p) g = some r := ⟨r, h⟩
 rw [dif_pos hx]
 have h1 := hx.choose_spec es (List.Perm.refl _)
 rw [h es (List.Perm.refl _)] at h1
 exact h1.symm
theorem pb {ε σ : Type} {f : σ -> ε -> Option σ} : ∀ (l l' : List ε) (s : σ), jD f s (l ++ l') = bdO (jD f s l) fun s' => jD f s' l'
 | [], l', s => rfl
 | e :: l, l', s => by
  simp only [List.cons_append, jD]
  cases h : f s e with
  | none => rfl
  | some s' => exact pb l l' s'
end Go.L
namespace Go.Eng
open Go Go.RowKit Go.L
variable [Dr]
variable {K : Nat}
theorem nodup_range {l : List Nat} {n : Nat} (hn : l.Nodup) (hl : ∀ i ∈ l, i < n) : (l ++ (List.range n).filter fun i => !l.contains i).Perm (List.range n) := by
 have h1 : ((List.range n).filter fun i => l.contains i).Perm l := by
  refine (List.perm_ext_iff_of_nodup (List.nodup_range.filter _) hn).2 fun a => ?_
  simp only [List.mem_filter, List.mem_range, List.contains_iff_mem]
  exact ⟨fun h => h.2, fun h => ⟨hl a h, h⟩⟩
 exact (h1.symm.append_right _).trans (List.filter_append_perm _ _)
theorem sy {ε : Type} [Inhabited ε] : ∀ (es : List ε), (List.range es.length).map (fun i => es.getD i default) = es := fun es => by
 apply List.ext_getElem
 · simp
 · intro i h1 h2
   simp [List.getD, h2]
theorem z7 {ε : Type} [Inhabited ε] {es : List ε} {l : List Nat} (hn : l.Nodup) (hl : ∀ i ∈ l, i < es.length) : ∃ l', (l.map (fun i => es.getD i default) ++ l').Perm es := by
 refine ⟨((List.range es.length).filter fun i => !l.contains i).map fun i => es.getD i default, ?_⟩
 rw [<- List.map_append]
 have := (nodup_range hn hl).map fun i => es.getD i default
 rwa [sy] at this
theorem yw {ε : Type} [Inhabited ε] {es : List ε} {l : List Nat} (hn : l.Nodup) (hl : ∀ i ∈ l, i < es.length) (ha : ∀ i, i < es.length -> i ∈ l) : (l.map fun i => es.getD i default).Perm es := by
 have h1 : l.Perm (List.range es.length) := (List.perm_ext_iff_of_nodup hn List.nodup_range).2 fun a => by simp only [List.mem_range]; exact ⟨hl a, ha a⟩
 have := h1.map fun i => es.getD i default
 rwa [sy] at this
section
variable {P : Program} {out : Nat -> Prop} {B : Nat -> Prop} {w : World} {Z : List (Option PB)} {H : List Blk}
theorem vt (hI : Inv out B w Z H) {j m n : Nat} {seen : List Nat} {es : List (Value × AV)} {p : PB} (hj : H[j]? = some (.iter m n seen)) (hp : Z[j]? = some (some p)) (hm : H[m]? = some (.map es)) (hn : es.length = n) (ty : TypeId) :
  ((∀ i, i < n -> i ∈ seen) /\ (Instr.next (.pointer (some ⟨p.blk, p.off + 0, none⟩)) false ty).run P w = .ok (.tuple #[.bool false]) w) \/
  ∃ i, i < n /\ i ∉ seen /\ ∃ (k v : Value) (w' : World), (Instr.next (.pointer (some ⟨p.blk, p.off + 0, none⟩)) false ty).run P w = .ok (.tuple #[.bool true, k, v]) w' /\
   EK K B w w' (aH out Z H) (aH out Z (H.set j (.iter m n (seen ++ [i])))) Z Z /\ Inv out B w' Z (H.set j (.iter m n (seen ++ [i]))) /\ ∀ A v, Rv w (aH out Z H) Z A v -> Rv w' (aH out Z (H.set j (.iter m n (seen ++ [i])))) Z A v := by
 obtain ⟨ho, q, hq, hh⟩ := hI.ok j _ p hj hp
 obtain ⟨a, ha, hr⟩ := hI.ok m _ q hm hq
 have hl : a.size = n := by have := RvM.len es a.toList 0 hr; rw [<- hn]; simpa using this
 have born : ∀ e ∈ a.toList, ∃ i, i < n /\ e.born = i /\ a.toList[i]? = some e := by
  intro e he
  obtain ⟨i, hi⟩ := List.getElem?_of_mem he
  have hlt : i < es.length := by have := (List.getElem?_eq_some_iff.1 hi).1; rw [RvM.len es a.toList 0 hr] at this; exact this
  obtain ⟨e', g1, _, g3, _⟩ := RvM.get es a.toList 0 i _ _ hr (geT hlt)
  rw [hi] at g1; cases g1
  exact ⟨i, by omega, by omega, hi⟩
 have bornAt : ∀ i, i < n -> ∃ e ∈ a.toList, e.born = i := by
  intro i hi
  obtain ⟨e', g1, _, g3, _⟩ := RvM.get es a.toList 0 i _ _ hr (geT (by omega : i < es.length))
  exact ⟨e', List.mem_of_getElem? g1, by omega⟩
 have hold : ∀ x ∈ a.toList, x.born < n := fun x hx => by obtain ⟨i, h1, h2, _⟩ := born x hx; omega
 rw [ho]
 rcases run_next_at (P := P) w ty p.blk q.blk n n seen.toArray a a.size hh ha hold (Nat.le_refl _) with ⟨h0, h1⟩ | ⟨e, he, w1, hw1, hrun⟩
 · refine .inl ⟨fun i hi => ?_, h1⟩
   obtain ⟨e, he, hb⟩ := bornAt i hi
   have hz : leftOf a seen.toArray = #[] := Array.eq_empty_of_size_eq_zero h0
   cases hc : seen.contains i with
   | true => simpa using hc
   | false =>
    have : e ∈ (leftOf a seen.toArray).toList := by
     unfold leftOf
     simp only [Array.toList_filter, List.mem_filter]
     refine ⟨he, ?_⟩
     rw [hb]
     simpa using hc
    rw [hz] at this; simp at this
 · right
   unfold leftOf at he
   simp only [Array.toList_filter, List.mem_filter] at he
   obtain ⟨he1, he2⟩ := he
   obtain ⟨i, hi, hb, _⟩ := born e he1
   rw [hb] at he2 hrun
   have hni : i ∉ seen := by simpa using he2
   rw [hl] at hrun
   refine ⟨i, hi, hni, e.key, e.val, _, hrun, ?_⟩
   have hheap : w1.heap = w.heap := by rcases hw1 with rfl | rfl <;> rfl
   have hos : w1.os = w.os := by rcases hw1 with rfl | rfl <;> rfl
   have htp : w1.tape = w.tape := by rcases hw1 with rfl | rfl <;> rfl
   have hou : w1.output = w.output := by rcases hw1 with rfl | rfl <;> rfl
   have hdr : w.drawn <= w1.drawn := by
    rcases hw1 with rfl | rfl
    · exact Nat.le_refl _
    · exact Nat.le_succ _
   have hlt : p.blk < w.heap.size := (hI.base j _ p hj hp rfl).2
   obtain ⟨hE, hI'⟩ := hI.kO (w' := Go.ChangeMaps.setBlock w1 p.blk (.mapIter (some q.blk) n (seen.toArray.push i) n)) hj hp rfl (.iter m n (seen ++ [i]))
    (by simp [Go.ChangeMaps.setBlock, hheap]) (fun b hb' => by simp [Go.ChangeMaps.setBlock, hheap, Array.getElem?_setIfInBounds, Ne.symm hb']) hos htp hou (fun _ => hdr)
    (fun hE => ⟨ho, q, hq, by simp [Go.ChangeMaps.setBlock, hheap, Array.getElem?_setIfInBounds, hlt]⟩)
   exact ⟨hE.ek, hI', fun A v h => Rv.ext hE A v h⟩
end
section
variable {P : Program} {k : List Fr} {F : X -> St -> Prop}
theorem CQ.next {id : Nat} {ty ty2 : TypeId} {pos pos2 : String} {af af2 : Array Edge} {it nx mo j m n : Nat} {seen : List Nat} {es : List (Value × AV)} {s : List AV} {h : List Blk}
  (hit : ox s it = .hp j 0) (hj : h[j]? = some (.iter m n seen)) (hm : h[m]? = some (.map es)) (hn : es.length = n) (hnx : nx < s.length)
  (hend : (∀ i, i < n -> i ∈ seen) -> CQ K P k F .normal ⟨(s.set nx .unk).set mo (.at (.bool false)), h⟩)
  (hstep : ∀ i, i < n -> i ∉ seen -> CQ K P k F .normal ⟨(s.set nx .unk).set mo (.at (.bool true)), h.set j (.iter m n (seen ++ [i]))⟩) :
  CQ K P (.c (.region id #[⟨some nx, .next (.tmp it) false, ty, pos, af, none⟩, ⟨some mo, .extract (.tmp nx) 0, ty2, pos2, af2, none⟩] false) :: k) F .normal ⟨s, h⟩ := by
 intro out B w Z a R hR hr
 refine wp_region ?_
 have hI := hR.inv
 have hslots := hR.slots
 simp only at hI hslots
 have hiv := iq hslots it
 rw [hit] at hiv
 obtain ⟨p, hp, hv⟩ := hiv
 have hlen : a.tmps.size = s.length := by have := RvL.length _ _ hslots; simpa using this
 show wpOps P _ _ [0, 1] a w
 have run1 : ∀ (u : Value) (w' : World), (Instr.next (.pointer (some ⟨p.blk, p.off + 0, none⟩)) false ty).run P w = .ok u w' ->
   (execOp a.eval ⟨some nx, .next (.tmp it) false, ty, pos, af, none⟩).run P w = .ok (.value u) w' := by
  intro u w' hu
  have he : a.eval (.tmp it) = .pointer (some ⟨p.blk, p.off + 0, none⟩) := hv
  simp only [execOp, he, Sem.run_bind, hu, Result.andThen_ok, Sem.run_pure]
 have run2 : ∀ (b : Bool) (us : List Value) (w' : World), (execOp (a.put (some nx) (.tuple (.bool b :: us).toArray)).eval ⟨some mo, .extract (.tmp nx) 0, ty2, pos2, af2, none⟩).run P w' = .ok (.value (.bool b)) w' := by
  intro b us w'
  have he : (a.put (some nx) (.tuple (.bool b :: us).toArray)).eval (.tmp nx) = .tuple (.bool b :: us).toArray := by
   show (a.tmps.setIfInBounds nx _).getD nx undef = _
   rw [Array.getD_eq_getD_getElem?, Array.getElem?_setIfInBounds, if_pos rfl, if_pos (by omega)]; rfl
  simp only [execOp, he, Instr.extract, Sem.run_bind, Sem.run_pure, Result.andThen_ok]
  simp
 have step : ∀ (b : Bool) (us : List Value) (w' : World) (h' : List Blk), (Instr.next (.pointer (some ⟨p.blk, p.off + 0, none⟩)) false ty).run P w = .ok (.tuple (.bool b :: us).toArray) w' ->
   (∀ A v, Rv w (aH out Z h) Z A v -> Rv w' (aH out Z h') Z A v) -> EK K B w w' (aH out Z h) (aH out Z h') Z Z -> Inv out B w' Z h' ->
   CQ K P k F .normal ⟨(s.set nx .unk).set mo (.at (.bool b)), h'⟩ ->
   wpOps P #[⟨some nx, .next (.tmp it) false, ty, pos, af, none⟩, ⟨some mo, .extract (.tmp nx) 0, ty2, pos2, af2, none⟩] R [0, 1] a w := by
  intro b us w' h' hrun hext hE hI' hq
  have sl : RvL w' (aH out Z h') Z s a.tmps.toList := RvL.lj _ _ (RvL.length _ _ hslots) fun i c v h1 h2 => by
   obtain ⟨v', g1, g2⟩ := RvL.get _ _ i c hslots h1
   rw [h2] at g1; cases g1
   exact hext _ _ g2
  have sl1 := po (dst := some nx) (A := .unk) (v := .tuple (.bool b :: us).toArray) sl trivial
  have sl2 := po (a := a.put (some nx) (.tuple (.bool b :: us).toArray)) (dst := some mo) (A := .at (.bool b)) (v := .bool b) sl1 rfl
  have g0 : (#[⟨some nx, .next (.tmp it) false, ty, pos, af, none⟩, ⟨some mo, .extract (.tmp nx) 0, ty2, pos2, af2, none⟩] : Array Oper)[0]? = some ⟨some nx, .next (.tmp it) false, ty, pos, af, none⟩ := rfl
  have g1 : (#[⟨some nx, .next (.tmp it) false, ty, pos, af, none⟩, ⟨some mo, .extract (.tmp nx) 0, ty2, pos2, af2, none⟩] : Array Oper)[1]? = some ⟨some mo, .extract (.tmp nx) 0, ty2, pos2, af2, none⟩ := rfl
  simp only [wpOps, g0, g1]
  rw [if_pos (by rfl)]
  refine .inl ?_
  unfold Oper.wp
  rw [run1 _ _ hrun]
  rw [Oper.upon_value]
  rw [if_pos (by rfl)]
  refine .inl ?_
  rw [run2 b us w', Oper.upon_value]
  exact hr .normal ⟨_, h'⟩ _ w' Z hq ⟨by rw [put_defers, put_defers]; exact hR.defers, sl2, hI'⟩ hE
 rcases vt (K := K) (P := P) hI hj hp hm hn ty with ⟨h1, h2⟩ | ⟨i, hi, hni, kv, v, w', h2, h3, h4, h5⟩
 · exact step false [] w h h2 (fun _ _ h => h) EK.id hI (hend h1)
 · exact step true [kv, v] w' _ h2 h5 h3 h4 (hstep i hi hni)
theorem CQ.BV {ε σ β : Type} [Inhabited ε] {es : List ε} {f : σ -> ε -> Option σ} {s0 : σ} {g : σ -> Option β} {r : β} (hr : xD es f s0 g = some r) {mk : ε -> Value × AV} (T : σ -> List Nat -> St)
  {id : Nat} {ty ty2 : TypeId} {pos pos2 : String} {af af2 : Array Edge} {it nx mo nb ob : Nat} {rest : Code} {st : St} (j m : Nat)
  (hw : Wk K st (T s0 []))
  (hb : ∀ z sn i e z' G, es[i]? = some e -> f z e = some z' -> (∀ st', Wk K st' (T z' (sn ++ [i])) -> G .normal st') -> CQ K P [.c (.block nb rest)] G .normal ⟨((T z sn).slots.set nx .unk).set mo (.at (.bool true)), (T z sn).heap.set j (.iter m es.length (sn ++ [i]))⟩)
  (ha : ∀ z sn, g z = some r -> CQ K P k F (.exit ob) ⟨((T z sn).slots.set nx .unk).set mo (.at (.bool false)), (T z sn).heap⟩)
  (hit : ∀ z sn, ox (T z sn).slots it = .hp j 0 := by intros; kernel_rfl) (hj : ∀ z sn, (T z sn).heap[j]? = some (.iter m es.length sn) := by intros; kernel_rfl) (hm : ∀ z sn, (T z sn).heap[m]? = some (.map (es.map mk)) := by intros; kernel_rfl)
  (hnx : ∀ z sn, Nat.blt nx (T z sn).slots.length = true := by intros; kernel_rfl) (hmo : ∀ z sn b, ox (((T z sn).slots.set nx .unk).set mo (.at (.bool b))) mo = .at (.bool b) := by intros; kernel_rfl) :
  CQ K P (.c (.loop (.seq (.region id #[⟨some nx, .next (.tmp it) false, ty, pos, af, none⟩, ⟨some mo, .extract (.tmp nx) 0, ty2, pos2, af2, none⟩] false) (.seq (.cond (.tmp mo) .skip (.exit ob)) (.block nb rest)))) :: k) F .normal st := by
 have hall := yz hr
 obtain ⟨I, hI⟩ : ∃ I : Nat -> σ × List Nat -> Prop, I = fun N q => q.2.Nodup /\ (∀ i ∈ q.2, i < es.length) /\ jD f s0 (q.2.map fun i => es.getD i default) = some q.1 /\ es.length - q.2.length = N := ⟨_, rfl⟩
 refine CQ.loop (fun q : σ × List Nat => T q.1 q.2) I (fun x st' => x = .exit ob /\ ∃ z sn, g z = some r /\ st' = ⟨((T z sn).slots.set nx .unk).set mo (.at (.bool false)), (T z sn).heap⟩) (m := es.length) (s0, []) (by rw [hI]; exact ⟨List.nodup_nil, by simp, rfl, by simp⟩) hw ?_ ?_
 · rintro N ⟨z, sn⟩ hIN
   rw [hI] at hIN
   obtain ⟨i1, i2, i3, i4⟩ := hIN
   dsimp only at i1 i2 i3 i4
   refine CQ.seq (CQ.next (hit z sn) (hj z sn) (hm z sn) (by simp) (lbT (hnx z sn)) (fun hend => ?_) (fun i hi hni => ?_))
   · refine CQ.seq (CQ.cond (t := false) (hmo z sn false) (fun h => by cases h) (fun _ => CQ.zg ?_))
     refine ⟨rfl, z, sn, ?_, rfl⟩
     have := hall _ (yw i1 i2 hend)
     rw [i3] at this
     exact this
   · refine CQ.seq (CQ.cond (t := true) (hmo z sn true) (fun _ => CQ.skip ?_) (fun h => by cases h))
     have i1' : (sn ++ [i]).Nodup := by
      rw [List.nodup_append]
      exact ⟨i1, by simp, fun a ha b hb => by rintro rfl; simp at hb; exact hni (hb ▸ ha)⟩
     have i2' : ∀ a ∈ sn ++ [i], a < es.length := fun a ha => by
      rcases List.mem_append.1 ha with h | h
      · exact i2 a h
      · simp at h; omega
     obtain ⟨l', hl'⟩ := z7 i1' i2'
     have hp := hall _ hl'
     rw [List.map_append, List.append_assoc, pb, i3] at hp
     have he : es[i]? = some (es.getD i default) := by simp [List.getD, geT hi]
     cases hf : f z (es.getD i default) with
     | none =>
      have e2 : bdO (some z) (fun s' => jD f s' (List.map (fun i => es.getD i default) [i] ++ l')) = none := by
       show bdO (f z (es.getD i default)) _ = none
       rw [hf]; rfl
      rw [e2] at hp; cases hp
     | some z' =>
      refine hb z sn i _ z' _ he hf fun st' hwk => ?_
      refine ⟨N - 1, (z', sn ++ [i]), ?_, ?_, hwk⟩
      · have : sn.length < es.length := by
         have h1 := (nodup_range i1' i2').length_eq
         simp only [List.length_append, List.length_range, List.length_singleton] at h1; omega
        omega
      · rw [hI]
        refine ⟨i1', i2', ?_, by simp; omega⟩
        rw [List.map_append, pb, i3]
        show bdO (f z (es.getD i default)) _ = _
        rw [hf]; rfl
 · rintro x st' ⟨rfl, z, sn, hg, rfl⟩
   exact ha z sn hg
theorem z8 {P : Program} {H : List Blk} {ε : Type} {es : List ε} {mk : ε -> Value × AV} {t kt e : TypeId} {b nid : Nat} (hu : P.underlying t = some (.map kt e)) (hb : H[b]? = some (.map (es.map mk))) :
  jE P H nid t (.mp b) = some (.eff (.hp nid 0) [(nid, .iter b es.length [])]) := by
 simp only [jE, hu, fO, hb, List.length_map]
theorem zZ {P : Program} {H : List Blk} {ε : Type} {es : List ε} {mk : ε -> Value × AV} {e : ε} {j m i : Nat} {sn : List Nat} (hj : H[j]? = some (.iter m es.length (sn ++ [i]))) (hm : H[m]? = some (.map (es.map mk))) (he : es[i]? = some e) :
  fD H (.hp j 0) = some (.pure (.tup [Be (mk e).1, (mk e).2])) := by
 have hl : decide ((es.map mk).length = es.length) = true := by simp
 have hx : (sn ++ [i]).getLast? = some i := by simp
 have hg : (es.map mk)[i]? = some (mk e) := by simp [he]
 simp only [fD, mz, hj, hm, hl, hx, hg]
end
end Go.Eng

