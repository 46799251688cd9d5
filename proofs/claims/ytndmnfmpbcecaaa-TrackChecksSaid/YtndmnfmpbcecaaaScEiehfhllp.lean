import Derived.Test.YtndmnfmpbcecaaaSc11hhfbglje
import Derived.Test.YtndmnfmpbcecaaaScMhehnolhn
import Derived.Test.YtndmnfmpbcecaaaEng16imohjppc
set_option linter.all false
set_option linter.unusedVariables false
namespace Go.Eng
open Go Go.RowKit
variable [Dr]
section
variable {P : Program}
inductive Md where
 | inl
 | mut
 | loc
def allT (l : List Nat) : List (Nat × Bool) := l.map fun b => (b, true)
theorem pureK_allT {H : List Blk} : ∀ l : List Nat, pureK H (allT l)
 | [] => trivial
 | _ :: l => pureK_allT (H := H) l
theorem pureT_all : ∀ (n : Nat) (xs : List Blk), pureT (List.replicate n true) xs
 | 0, _ => by cases ‹List Blk› <;> trivial
 | n + 1, [] => by simp [List.replicate_succ, pureT]
 | n + 1, x :: xs => by rw [List.replicate_succ]; exact pureT_all n xs
noncomputable def sameB : Option Blk → Blk → Bool
 | some (.own a), .own b => AVBL a b
 | some (.fix a), .fix b => AVBL a b
 | _, _ => false
theorem sameB_eq {x : Option Blk} {y : Blk} (h : sameB x y = true) : x = some y := by
 unfold sameB at h
 split at h
 · rw [AVBL_eq _ _ h]
 · rw [AVBL_eq _ _ h]
 · cases h
noncomputable def dropW (H : List Blk) (args : List AV) (rd : List Nat) : List (Nat × Blk) → List (Nat × Blk) → List (Nat × Blk)
 | acc, [] => acc
 | acc, (d, x) :: ws => match sameB H[d]? x && ((hpsOfL args).contains d && (rd.contains d && (acc ++ ws).all (fun q => !Nat.beq q.1 d))) with
  | true => dropW H args rd acc ws
  | false => dropW H args rd (acc ++ [(d, x)]) ws
theorem dropW_ok {f : FuncId} {args : List AV} {H : List Blk} {v : AV} {rd : List Nat} {n : Nat} : ∀ (ws acc : List (Nat × Blk)), CallOk P f args H (.loc v (acc ++ ws) rd n) → CallOk P f args H (.loc v (dropW H args rd acc ws) rd n)
 | [], acc, h => by rw [List.append_nil] at h; exact h
 | (d, x) :: ws, acc, h => by
  unfold dropW
  split
  · rename_i hc
    simp only [Bool.and_eq_true] at hc
    exact dropW_ok ws acc (callOk_drop d x acc ws h rfl (sameB_eq hc.1) hc.2.1 hc.2.2.1 hc.2.2.2)
  · exact dropW_ok ws (acc ++ [(d, x)]) (by rw [List.append_assoc]; exact h)
noncomputable def mutStep (P : Program) (call : CallF) (n : Nat) (fn : Func) (args : List AV) (H : List Blk) : Option CRes :=
 let keep := allT (reach H n ((idsOfL args).foldl insNat []))
 match nodupK keep && keep.all (fun q => Nat.blt q.1 H.length) with
 | false => none
 | true => match evalBody P call n fn (rnL keep args) (rnH H keep keep) with
  | none => none
  | some (r, H1) => match Nat.ble keep.length H1.length with
   | false => none
   | true => some (.loc (rfA (fun k => (tgtN keep.length keep H.length (H1.length - keep.length))[k]?) r) (dropW H args (keep.map (·.1)) [] (wsMut keep.length keep H.length (H1.length - keep.length) (List.replicate H1.length true) H1)) (keep.map (·.1)) (H1.length - keep.length))
noncomputable def evalCallM (P : Program) (md : FuncId → Md) (ext : FuncId → Option (List AV → Option AV)) : Nat → CallF
 | 0, _, _, _ => none
 | n + 1, f, args, H =>
  match P.funcs[f]? with
  | none => none
  | some fn =>
   match md f with
   | .inl => (match evalBody P (evalCallM P md ext n) n fn args H with | some (v, H') => some (.whole v H') | none => none)
   | .mut => mutStep P (evalCallM P md ext n) n fn args H
   | .loc =>
    let l := reach H n ((idsOfL args).foldl insNat [])
    match mapO (snapA H (fun b => l.contains b) n) args with
    | none => none
    | some args' => match ext f with
     | some F => (match F args' with | some r => (match idsOf r with | [] => bringA n l H [] r | _ => none) | none => none)
     | none => (match evalBody P (evalCallM P md ext n) n fn args' [] with | some (r, G) => bringA n l H G r | none => none)
theorem mutStep_sound (hng : NoNG P) (hm : P.follows .mixedOrders = true) {call : CallF} (hcall : CallsOk P call) {n : Nat} {f : FuncId} {fn : Func} (hf : P.funcs[f]? = some fn) {args : List AV} {H : List Blk} {r : CRes} (h : mutStep P call n fn args H = some r) : CallOk P f args H r := by
 unfold mutStep at h
 simp only at h
 generalize hkeep : allT (reach H n ((idsOfL args).foldl insNat [])) = keep at *
 have hp : pureK H keep := by rw [← hkeep]; exact pureK_allT _
 split at h
 · cases h
 · rename_i hk
   rw [Bool.and_eq_true] at hk
   split at h
   · cases h
   · rename_i r0 H1 hr
     split at h
     · cases h
     · rename_i hle
       cases h
       have hrun : FnMut keep.length P f (rnL keep args) (rnH H keep keep) r0 H1 := fun out B w π vs hI ha => (evalBody_sound hng hm hcall hf hr hI ha).mono fun e w' ⟨u, π', h1, h2, h3, h4⟩ => ⟨u, π', h1, h2.ek, h3, h4⟩
       have hle := Nat.le_of_ble_eq_true hle
       exact dropW_ok _ [] (callOk_mut (m := H1.length - keep.length) keep.length keep (List.replicate H1.length true) hrun hp (pureT_all _ _) (by omega) (List.length_replicate ..) hk.1 hk.2 (Nat.ble_eq_true_of_le (Nat.le_refl _)) rfl rfl rfl rfl rfl)
theorem evalCallM_sound (hng : NoNG P) (hm : P.follows .mixedOrders = true) {md : FuncId → Md} {ext : FuncId → Option (List AV → Option AV)} (hext : ∀ f F, ext f = some F → ExtOk P f F) :
  ∀ n, CallsOk P (evalCallM P md ext n)
 | 0, f, args, H, r, h => by simp [evalCallM] at h
 | n + 1, f, args, H, r, h => by
  have ih := evalCallM_sound (md := md) hng hm hext n
  unfold evalCallM at h
  split at h
  · cases h
  · rename_i fn hfn
    split at h
    · split at h
      · rename_i v H1 hv
        cases h
        intro out B w π vs hI ha
        exact evalBody_sound hng hm ih hfn hv hI ha
      · cases h
    · exact mutStep_sound hng hm ih hfn h
    · simp only at h
      generalize hl : reach H n ((idsOfL args).foldl insNat []) = l at *
      split at h
      · cases h
      · rename_i args' hargs
        have core : ∀ (G : List Blk) (r0 : AV), bringA n l H G r0 = some r →
          (∀ (out : Nat → Prop) (w : World) (vs : List Value), (∀ b, out b → b < w.heap.size) → RvL w out [] args' vs →
           Calls P f vs.toArray w fun e w' => ∃ u πG, e = .returned u ∧ Ext (Lo w.heap.size) w w' out (muOf out πG G) [] πG ∧ Inv out (Lo w.heap.size) w' πG G ∧ Rv w' (muOf out πG G) πG r0 u) → CallOk P f args H r := by
         intro G r0 hbr hrun
         cases r with
         | whole v H1 => 
          unfold bringA at hbr
          split at hbr
          · cases hbr
          · simp only at hbr
            split at hbr <;> cases hbr
         | loc v ws rd m =>
          have hrd : rd = l := by
           unfold bringA at hbr
           split at hbr
           · cases hbr; rfl
           · simp only at hbr
             split at hbr
             · cases hbr; rfl
             · cases hbr
          subst hrd
          intro H' hlen hag out B w π vs hI hπ ha
          obtain ⟨hfI, hfE, hfl, hf1, hf2⟩ := freezeW_sound rd H' H hI (fun b hb hlt => .inl (hag b hb hlt))
          have hmu := Ext.mu_mono hfI hfE
          have hL : Look w (muOf out π H') (muOf out π (updAll H' (freezeW H rd))) π H (fun b => rd.contains b) := by
           intro b p cs hok hbl hp
           have hbm : b ∈ rd := by simpa using hok
           have hblt : b < H.length := by rcases hbl with h | h <;> exact getElem?_lt h
           have hbl' : H'[b]? = some (.own cs) ∨ H'[b]? = some (.fix cs) := by rw [hag b hbm hblt]; exact hbl
           refine ⟨blk_cells hI hbl' hp, ?_⟩
           have hlive : ∃ y, H'[b]? = some y ∧ y.isLive = true := by rcases hbl' with h | h <;> exact ⟨_, h, rfl⟩
           obtain ⟨y, hy, hyl⟩ := hlive
           have hge := hI.base b y p hy hp hyl
           have hfx : (updAll H' (freezeW H rd))[b]? = some (.fix cs) := by
            rcases hbl with h | h
            · exact hf1 b hbm _ cs h rfl
            · rw [hf2 b (fun x cs' _ h' e => by rw [h] at h'; cases h'; cases e), hag b hbm hblt]; exact h
           rintro (h | ⟨i, x, q, h1, h2, h3, h4⟩)
           · exact hge.1 (hI.out_lt _ h)
           · by_cases hib : i = b
             · subst hib; rw [hfx] at h1; cases h1; simp [Blk.isMut] at h2
             · exact hfI.sepO i b x (.fix cs) q p _ hib h1 hfx h3 hp h2 h4 rfl
          have ha' : RvL w (muOf out π (updAll H' (freezeW H rd))) [] args' vs := mapO_RvL (fun A v A' hA hA' => snapA_sound hL hmu n A A' v hA hA') args args' vs ha hargs
          refine (hrun _ w vs (muOf_lt hfI) ha').mono ?_
          rintro e w' ⟨u, πG, rfl, k1, k2, k3⟩
          obtain ⟨π', q1, q2, q3, q4⟩ := bring_sound hbr hlen hag hI hπ k1 k2 k3
          exact ⟨u, π', rfl, q1, q2, q3, q4⟩
        split at h
        · rename_i F hF
          split at h
          · rename_i r0 hr0
            split at h
            · refine core [] r0 h ?_
              intro out w vs hout ha
              refine (hext f F hF args' r0 hr0 out w vs hout ha).mono ?_
              rintro e w' ⟨u, rfl, k1, k2⟩
              refine ⟨u, [], rfl, ?_, ⟨rfl, fun b hb => Nat.lt_of_lt_of_le hb k1.size, hout, by simp, by simp, by simp⟩, ?_⟩
              · rw [muOf_nil]; exact k1
              · rw [muOf_nil]; exact k2
            · cases h
          · cases h
        · split at h
          · rename_i r0 G hr0
            refine core G r0 h ?_
            intro out w vs hout ha
            have hI0 : Inv out (Lo w.heap.size) w [] [] := ⟨rfl, fun _ h => h, hout, by simp, by simp, by simp⟩
            have := evalBody_sound hng hm ih hfn hr0 hI0 (by rw [muOf_nil]; exact ha)
            rw [muOf_nil] at this
            exact this
          · cases h
theorem FnOk.of_run (hng : NoNG P) (hm : P.follows .mixedOrders = true) {md : FuncId → Md} {ext : FuncId → Option (List AV → Option AV)} (hext : ∀ f F, ext f = some F → ExtOk P f F) {n m : Nat} {f : FuncId} {fn : Func} (hf : P.funcs[f]? = some fn) {args : List AV} {r : AV} (h : runPure P (evalCallM P md ext m) n fn args = some r) : FnOk P f args r :=
 fun out w vs hout ha => runPure_sound hng hm (evalCallM_sound hng hm hext m) hf h out w vs hout ha
end
end Go.Eng

