import Derived.Test.YtecdcgfclgmbpaaGreatSc11Apas
import Derived.Test.YtecdcgfclgmbpaaGreatScMApas
import Derived.Test.YtecdcgfclgmbpaaGreatEng16Apas
set_option linter.all false
set_option linter.unusedVariables false
namespace Go.Eng
open Go Go.RowKit
variable [Dr]
section
variable {P : Program}
inductive Md where
 | inl
 | mut
 | loc
def F7 (l : List Nat) : List (Nat × Bool) := l.map fun b => (b, true)
theorem wG {H : List Blk} : ∀ l : List Nat, kh H (F7 l)
 | [] => trivial
 | _ :: l => wG (H := H) l
theorem xO : ∀ (n : Nat) (xs : List Blk), vH (List.replicate n true) xs
 | 0, _ => by cases ‹List Blk› <;> trivial
 | n + 1, [] => by simp [List.replicate_succ, vH]
 | n + 1, x :: xs => by rw [List.replicate_succ]; exact xO n xs
noncomputable def En : Option Blk -> Blk -> Bool
 | some (.own a), .own b => tR a b
 | some (.fix a), .fix b => tR a b
 | _, _ => false
theorem DJ {x : Option Blk} {y : Blk} (h : En x y = true) : x = some y := by
 unfold En at h
 split at h
 · rw [mv _ _ h]
 · rw [mv _ _ h]
 · cases h
noncomputable def Al (H : List Blk) (args : List AV) (rd : List Nat) : List (Nat × Blk) -> List (Nat × Blk) -> List (Nat × Blk)
 | acc, [] => acc
 | acc, (d, x) :: ws => match En H[d]? x && ((nT args).contains d && (rd.contains d && (acc ++ ws).all (fun q => !Nat.beq q.1 d))) with
  | true => Al H args rd acc ws
  | false => Al H args rd (acc ++ [(d, x)]) ws
theorem wm {f : FuncId} {args : List AV} {H : List Blk} {v : AV} {rd : List Nat} {n : Nat} : ∀ (ws acc : List (Nat × Blk)), gz P f args H (.loc v (acc ++ ws) rd n) -> gz P f args H (.loc v (Al H args rd acc ws) rd n)
 | [], acc, h => by rw [List.append_nil] at h; exact h
 | (d, x) :: ws, acc, h => by
  unfold Al
  split
  · rename_i hc
    simp only [Bool.and_eq_true] at hc
    exact wm ws acc (jb d x acc ws h rfl (DJ hc.1) hc.2.1 hc.2.2.1 hc.2.2.2)
  · exact wm ws (acc ++ [(d, x)]) (by rw [List.append_assoc]; exact h)
noncomputable def xS (P : Program) (call : dz) (n : Nat) (fn : Func) (args : List AV) (H : List Blk) : Option tk :=
 let keep := F7 (reach H n ((ct args).foldl p8 []))
 match oZ keep && keep.all (fun q => Nat.blt q.1 H.length) with
 | false => none
 | true => match om P call n fn (rnL keep args) (rnH H keep keep) with
  | none => none
  | some (r, H1) => match Nat.ble keep.length H1.length with
   | false => none
   | true => some (.loc (rfA (fun k => (wQ keep.length keep H.length (H1.length - keep.length))[k]?) r) (Al H args (keep.map (·.1)) [] (BE keep.length keep H.length (H1.length - keep.length) (List.replicate H1.length true) H1)) (keep.map (·.1)) (H1.length - keep.length))
noncomputable def jO (P : Program) (md : FuncId -> Md) (ext : FuncId -> Option (List AV -> Option AV)) : Nat -> dz
 | 0, _, _, _ => none
 | n + 1, f, args, H =>
  match P.funcs[f]? with
  | none => none
  | some fn =>
   match md f with
   | .inl => (match om P (jO P md ext n) n fn args H with | some (v, H') => some (.whole v H') | none => none)
   | .mut => xS P (jO P md ext n) n fn args H
   | .loc =>
    let l := reach H n ((ct args).foldl p8 [])
    match oq (iZ H (fun b => l.contains b) n) args with
    | none => none
    | some j => match ext f with
     | some F => (match F j with | some r => (match mf r with | [] => pv n l H [] r | _ => none) | none => none)
     | none => (match om P (jO P md ext n) n fn j [] with | some (r, G) => pv n l H G r | none => none)
theorem wO (C : rB P) (hm : P.follows .mixedOrders = true) {call : dz} (j : fP P call) {n : Nat} {f : FuncId} {fn : Func} (E : P.funcs[f]? = some fn) {args : List AV} {H : List Blk} {r : tk} (h : xS P call n fn args H = some r) : gz P f args H r := by
 unfold xS at h
 simp only at h
 generalize q : F7 (reach H n ((ct args).foldl p8 [])) = keep at *
 have hp : kh H keep := by rw [<- q]; exact wG _
 split at h
 · cases h
 · rename_i D
   rw [Bool.and_eq_true] at D
   split at h
   · cases h
   · rename_i r0 H1 I
     split at h
     · cases h
     · rename_i hle
       cases h
       have z : fT keep.length P f (rnL keep args) (rnH H keep keep) r0 H1 := fun out B w π vs J ha => (ke C hm j E I J ha).mono fun e w' ⟨u, π', h1, h2, M, N⟩ => ⟨u, π', h1, h2.ek, M, N⟩
       have hle := lbT hle
       exact wm _ [] (wg (m := H1.length - keep.length) keep.length keep (List.replicate H1.length true) z hp (xO _ _) (by omega) (List.length_replicate ..) D.1 D.2 (Nat.ble_eq_true_of_le (Nat.le_refl _)) rfl rfl rfl rfl rfl)
theorem pO (D : rB P) (hm : P.follows .mixedOrders = true) {md : FuncId -> Md} {ext : FuncId -> Option (List AV -> Option AV)} (I : ∀ f F, ext f = some F -> mZ P f F) :
  ∀ n, fP P (jO P md ext n)
 | 0, f, args, H, r, h => by simp [jO] at h
 | n + 1, f, args, H, r, h => by
  have ih := pO (md := md) D hm I n
  unfold jO at h
  split at h
  · cases h
  · rename_i fn N
    split at h
    · split at h
      · rename_i v H1 hv
        cases h
        intro out B w π vs O ha
        exact ke D hm ih N hv O ha
      · cases h
    · exact wO D hm ih N h
    · simp only at h
      generalize hl : reach H n ((ct args).foldl p8 []) = l at *
      split at h
      · cases h
      · rename_i z T
        have core : ∀ (G : List Blk) (r0 : AV), pv n l H G r0 = some r ->
          (∀ (out : Nat -> Prop) (w : World) (vs : List Value), (∀ b, out b -> b < w.heap.size) -> RvL w out [] z vs ->
           Calls P f vs.toArray w fun e w' => ∃ u πG, e = .returned u /\ Ext (Lo w.heap.size) w w' out (aJ out πG G) [] πG /\ Inv out (Lo w.heap.size) w' πG G /\ Rv w' (aJ out πG G) πG r0 u) -> gz P f args H r := by
         intro G r0 j a3
         cases r with
         | whole v H1 => 
          unfold pv at j
          split at j
          · cases j
          · simp only at j
            split at j <;> cases j
         | loc v ws rd m =>
          have a6 : rd = l := by
           unfold pv at j
           split at j
           · cases j; rfl
           · simp only at j
             split at j
             · cases j; rfl
             · cases j
          subst a6
          intro H' hlen E out B w π vs O hπ ha
          obtain ⟨U, a7, b9, a8, a9⟩ := iD rd H' H O (fun b hb b0 => .inl (E b hb b0))
          have b1 := Ext.yq U a7
          have hL : wH w (aJ out π H') (aJ out π (aM H' (cA H rd))) π H (fun b => rd.contains b) := by
           intro b p cs b3 Y hp
           have a0 : b ∈ rd := by simpa using b3
           have J : b < H.length := by rcases Y with h | h <;> exact aT h
           have M : H'[b]? = some (.own cs) \/ H'[b]? = some (.fix cs) := by rw [E b a0 J]; exact Y
           refine ⟨fC O M hp, ?_⟩
           have a1 : ∃ y, H'[b]? = some y /\ y.isLive = true := by rcases M with h | h <;> exact ⟨_, h, rfl⟩
           obtain ⟨y, hy, b4⟩ := a1
           have b5 := O.base b y p hy hp b4
           have a4 : (aM H' (cA H rd))[b]? = some (.fix cs) := by
            rcases Y with h | h
            · exact a8 b a0 cs h
            · rw [a9 b (fun cs' _ h' => by rw [h] at h'; cases h'), E b a0 J]; exact h
           rintro (h | ⟨i, x, q, h1, h2, h3, h4⟩)
           · exact b5.1 (O.out_lt _ h)
           · by_cases a5 : i = b
             · subst a5; rw [a4] at h1; cases h1; simp [Blk.hZ] at h2
             · exact U.sep i b x (.fix cs) q p a5 h1 a4 h3 hp h2 rfl h4
          have b6 : RvL w (aJ out π (aM H' (cA H rd))) [] z vs := lP (fun A v A' hA b7 => nq hL b1 n A A' v hA b7) args z vs ha T
          refine (a3 _ w vs (ya U) b6).mono ?_
          rintro e w' ⟨u, πG, rfl, k1, k2, k3⟩
          obtain ⟨π', q1, q2, q3, q4⟩ := zM j hlen E O hπ k1 k2 k3
          exact ⟨u, π', rfl, q1, q2, q3, q4⟩
        split at h
        · rename_i F hF
          split at h
          · rename_i r0 a2
            split at h
            · refine core [] r0 h ?_
              intro out w vs C ha
              refine (I f F hF z r0 a2 out w vs C ha).mono ?_
              rintro e w' ⟨u, rfl, k1, k2⟩
              refine ⟨u, [], rfl, ?_, ⟨rfl, fun b hb => Nat.lt_of_lt_of_le hb k1.size, C, by simp, by simp, by simp⟩, ?_⟩
              · rw [js]; exact k1
              · rw [js]; exact k2
            · cases h
          · cases h
        · split at h
          · rename_i r0 G a2
            refine core G r0 h ?_
            intro out w vs C ha
            have b8 : Inv out (Lo w.heap.size) w [] [] := ⟨rfl, fun _ h => h, C, by simp, by simp, by simp⟩
            have := ke D hm ih N a2 b8 (by rw [js]; exact ha)
            rw [js] at this
            exact this
          · cases h
theorem aN.Gg (j : rB P) (hm : P.follows .mixedOrders = true) {md : FuncId -> Md} {ext : FuncId -> Option (List AV -> Option AV)} (q : ∀ f F, ext f = some F -> mZ P f F) {n m : Nat} {f : FuncId} {fn : Func} (C : P.funcs[f]? = some fn) {args : List AV} {r : AV} (h : vf P (jO P md ext m) n fn args = some r) : aN P f args r :=
 fun out w vs z ha => wK j hm (pO j hm q m) C h out w vs z ha
end
end Go.Eng

