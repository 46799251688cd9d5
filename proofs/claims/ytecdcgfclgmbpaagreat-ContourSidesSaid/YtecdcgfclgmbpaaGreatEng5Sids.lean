import Derived.Test.YtecdcgfclgmbpaaGreatEng3Sids
import Derived.Laws.Cover3
import Derived.Laws.Pointers
import Derived.MapKept
set_option linter.all false
namespace Go.Eng
open Go Go.RowKit
variable [Dr]
def b7 (P : Program) (out : Nat -> Prop) (B : Nat -> Prop) (w : World) (Z : List (Option PB)) (H : List Blk) (s : Sem Next) : bt -> Prop
 | .pure A => ∃ nx v, s.run P w = .ok nx w /\ (nx = .value v \/ nx = .skip /\ v = undef) /\ Rv w (aM out Z H) Z A v
 | .eff A ws => ∃ nx v w' Z', s.run P w = .ok nx w' /\ (nx = .value v \/ nx = .skip /\ v = undef) /\ Ext B w w' (aM out Z H) (aM out Z' (aP H ws)) Z Z' /\ Inv out B w' Z' (aP H ws) /\ Rv w' (aM out Z' (aP H ws)) Z' A v /\ ∀ j, (∀ b, (j, b) ∉ ws) -> Z'[j]? = Z[j]?
 | .call f args => ∃ vs, s.run P w = .ok (.enter f vs) w /\ RvL w (aM out Z H) Z args vs.toList
section
variable {P : Program} {out : Nat -> Prop} {B : Nat -> Prop} {w : World} {Z : List (Option PB)} {H : List Blk}
theorem b7.value {s : Sem Value} {A : AV} {v : Value} (h : s.run P w = .ok v w) (hA : Rv w (aM out Z H) Z A v) : b7 P out B w Z H (do pure (.value (<- s))) (.pure A) :=
 ⟨.value v, v, by simp [h], .inl rfl, hA⟩
theorem ir {s : Sem Next} {o : Option AV} {r : bt} (h : bt.ofP o = some r) (hs : ∀ A, o = some A -> b7 P out B w Z H s (.pure A)) : b7 P out B w Z H s r := by
 cases o with
 | none => cases h
 | some A => cases h; exact hs A rfl
theorem vE {A : AV} {v : Value} {f : Value -> Option Value} {s : Sem Value} {r : bt} (hA : Rv w (aM out Z H) Z A v) (hf : ∀ x y, v = x -> f x = some y -> s.run P w = .ok y w) (h : CA f A = some r) :
  b7 P out B w Z H (do pure (.value (<- s))) r := by
 unfold CA at h
 split at h
 · rename_i x hx
   split at h
   · rename_i y hy
     cases h
     exact b7.value (hf x y (iu A v x hA hx) hy) rfl
   · cases h
 · cases h
theorem zy {t : Bool} {A B' : AV} {a b : Value} (hA : Rv w (aM out Z H) Z A a) (hB : Rv w (aM out Z H) Z B' b) : Rv w (aM out Z H) Z (B8 t A B') (if t then a else b) := by
 unfold B8
 split
 · cases hA; cases hB; cases t <;> rfl
 · cases t
   · exact hB
   · exact hA
theorem iL {mu : Nat -> Prop} {A : AV} {v : Value} {n : Int} (h : Rv w mu Z A v) (hi : zF A = some n) : ∃ k, v = .int k n := by
 unfold zF at hi; split at hi
 · cases hi; exact ⟨_, h⟩
 · cases hi
theorem qd {mu : Nat -> Prop} {A : AV} {v : Value} {k : IntKind} {n : Int} (h : Rv w mu Z A v) (hi : xM A = some (k, n)) : v = .int k n := by
 unfold xM at hi; split at hi
 · cases hi; exact h
 · cases hi
theorem tN {mu : Nat -> Prop} {A A' : AV} {v : Value} {n : Nat} (h : Rv w mu Z A v) (hp : Ai n A = some A') : ∃ ad : Addr, v = .pointer (some ad) /\ Rv w mu Z A' (.pointer (some (ad.add n))) := by
 unfold Ai at hp
 split at hp
 · cases hp; obtain ⟨p, h1, rfl⟩ := h
   exact ⟨_, rfl, p, h1, by rw [gx, Nat.add_assoc]⟩
 · cases hp; obtain ⟨b, o, rfl, h2, h3⟩ := h
   exact ⟨_, rfl, b, o, by rw [gx, Nat.add_assoc], h2, h3⟩
 · cases hp
theorem iP {mu : Nat -> Prop} {t : TypeId} {cs : List AV} {vs : Array Value} {off : Nat} {A : AV} (h : RvL w mu Z cs vs.toList) (hp : pq P t cs off = some A) :
  ∃ v, (part t vs off).run P w = .ok v w /\ Rv w mu Z A v := by
 unfold pq at hp
 split at hp
 · rename_i ha
   split at hp
   · rename_i n hn
     cases hp
     refine ⟨.agg (vs.extract off (off + n)), by simp [part, um ha, bB hn], _, rfl, ?_⟩
     have := RvL.take n _ _ (RvL.drop off _ _ h)
     rw [Array.toList_extract, List.extract_eq_take_drop]
     rwa [show off + n - off = n by omega]
   · cases hp
 · rename_i ha
   obtain ⟨v, h1, h2⟩ := RvL.get _ _ _ _ h hp
   exact ⟨v, by simp [part, um ha, <- Array.getElem?_toList, h1], h2⟩
 · cases hp
theorem w8 {s : TypeId} {x : AV} {v : Value} {f : Nat} {A : AV} {mu : Nat -> Prop} (hx : Rv w mu Z x v) (h : zj P s x f = some A) : ∃ u, (Instr.field s v f).run P w = .ok u w /\ Rv w mu Z A u := by
 unfold zj at h
 split at h
 · rename_i fs cs hu
   split at h
   · rename_i fd hfd
     obtain ⟨vs, rfl, hvs⟩ := hx
     obtain ⟨u, h1, h2⟩ := iP hvs h
     exact ⟨u, by simp [Instr.field, run_underlying hu, hfd, asAgg, h1], h2⟩
   · cases h
 · rename_i fs a hu
   split at h
   · rename_i fd hfd
     cases hx
     obtain ⟨u, h1, h2⟩ := iP (eY a.toList) h
     exact ⟨u, by simp [Instr.field, run_underlying hu, hfd, asAgg, h1], h2⟩
   · cases h
 · cases h
theorem xb {t : TypeId} {x ix : AV} {v vi : Value} {A : AV} {mu : Nat -> Prop} (hx : Rv w mu Z x v) (hi : Rv w mu Z ix vi) (h : z7 P t x ix = some A) : ∃ u, (Instr.index t v vi).run P w = .ok u w /\ Rv w mu Z A u := by
 unfold z7 at h
 split at h
 · rename_i len e cs i hu he
   split at h
   · rename_i n hn hb
     simp only [Bool.and_eq_true, decide_eq_true_eq] at hb
     obtain ⟨vs, rfl, hvs⟩ := hx
     obtain ⟨k, rfl⟩ := iL hi he
     obtain ⟨u, h1, h2⟩ := iP hvs h
     exact ⟨u, by simp [Instr.index, asIntOf, run_underlying hu, hb, bB hn, h1], h2⟩
   · cases h
 · rename_i len e a i hu he
   split at h
   · rename_i n hn hb
     simp only [Bool.and_eq_true, decide_eq_true_eq] at hb
     cases hx
     obtain ⟨k, rfl⟩ := iL hi he
     obtain ⟨u, h1, h2⟩ := iP (eY a.toList) h
     exact ⟨u, by simp [Instr.index, asIntOf, run_underlying hu, hb, bB hn, h1], h2⟩
   · cases h
 · rename_i s i hu he
   have hx' : v = s := hx
   subst hx'
   split at h
   · rename_i j hj
     have := iu ix vi j hi hj
     subst this
     cases hp : gp P (Instr.index t v vi) with
     | none => simp [hp] at h
     | some u => simp [hp] at h; subst h; exact ⟨u, fo hp w, rfl⟩
   · cases h
 · cases h
theorem tt {s : TypeId} {x : AV} {v : Value} {f : Nat} {A : AV} {mu : Nat -> Prop} (hx : Rv w mu Z x v) (h : rK P s x f = some A) : ∃ u, (Instr.fieldAt s v f).run P w = .ok u w /\ Rv w mu Z A u := by
 unfold rK at h
 split at h
 · rename_i fs hu
   split at h
   · rename_i fd hfd
     split at h
     · cases h
     · rename_i n hne hn
       obtain ⟨ad, rfl, h2⟩ := tN hx h
       refine ⟨_, ?_, h2⟩
       have hn0 : ¬ n = 0 := fun e => hne e
       simp [Instr.fieldAt, run_underlying hu, hfd, Instr.sureAddr, fieldPlace, bB hn, hn0]
     · cases h
   · cases h
 · cases h
theorem tH {t : TypeId} {x ix : AV} {v vi : Value} {A : AV} {mu : Nat -> Prop} (hx : Rv w mu Z x v) (hi : Rv w mu Z ix vi) (h : q0 P t x ix = some A) : ∃ u, (Instr.indexAt t v vi).run P w = .ok u w /\ Rv w mu Z A u := by
 unfold q0 at h
 split at h
 · rename_i e i hu he
   obtain ⟨k, rfl⟩ := iL hi he
   split at h
   · rename_i n nl cs len hn
     split at h
     · rename_i hb
       simp only [Bool.and_eq_true, decide_eq_true_eq] at hb
       cases h
       rcases hx with ⟨_, h0, _, _⟩ | ⟨b, o, cap, rfl, _, h3, h4⟩ | ⟨h0, _⟩
       rotate_left 2
       · omega
       · omega
       · exact ⟨_, by simp [Instr.indexAt, asIntOf, run_underlying hu, hb, bB hn]; rfl, b, o, by rw [gx], h3, h4⟩
     · cases h
   · rename_i n b off len es hn
     split at h
     · rename_i hb
       simp only [Bool.and_eq_true, decide_eq_true_eq] at hb
       cases h
       rcases hx with ⟨h0, _⟩ | ⟨p, a, cap, h1, rfl, h2, hsp, h3⟩
       · omega
       have h3' := (h3 (by omega)).1
       exact ⟨_, by simp [Instr.indexAt, asIntOf, run_underlying hu, hb, bB hn]; rfl, p, h1, by rw [h3', gx, Nat.add_assoc]⟩
     · cases h
   · cases h
 · rename_i len e i hu he
   obtain ⟨k, rfl⟩ := iL hi he
   split at h
   · rename_i n hn
     split at h
     · rename_i hb
       simp only [Bool.and_eq_true, decide_eq_true_eq] at hb
       obtain ⟨ad, rfl, h2⟩ := tN hx h
       exact ⟨_, by simp [Instr.indexAt, asIntOf, run_underlying hu, Instr.sureAddr, hb, bB hn], h2⟩
     · cases h
   · cases h
 · cases h
theorem cP {mu : Nat -> Prop} {isS : Bool} {len cap : Nat} {lo hi : Option AV} {vlo vhi : Option Value} {l h : Nat} (hle : len <= cap)
  (hlo : match lo, vlo with | none, none => True | some A, some v => Rv w mu Z A v | _, _ => False) (hhi : match hi, vhi with | none, none => True | some A, some v => Rv w mu Z A v | _, _ => False)
  (hb : oR len lo hi = some (l, h)) : (Instr.sliceBounds isS len cap vlo vhi none).run P w = .ok (l, h, cap) w /\ l <= h /\ h <= len := by
 unfold oR at hb
 split at hb
 · rename_i il ih e1 e2
   split at hb
   · rename_i hd
     simp only [Bool.and_eq_true, decide_eq_true_eq] at hd
     cases hb
     obtain ⟨⟨d1, d2⟩, d3⟩ := hd
     refine ⟨?_, by omega, by omega⟩
     cases lo with
     | none =>
      cases vlo with
      | some _ => exact hlo.elim
      | none =>
       cases e1
       cases hi with
       | none =>
        cases vhi with
        | some _ => exact hhi.elim
        | none => cases e2; simp [Instr.sliceBounds]
       | some A =>
        cases vhi with
        | none => exact hhi.elim
        | some v =>
         obtain ⟨k, rfl⟩ := iL hhi e2
         have : ih <= (cap : Int) := by omega
         simp [Instr.sliceBounds, Instr.sliceBound, asIntOf, this, d2]
     | some A =>
      cases vlo with
      | none => exact hlo.elim
      | some v =>
       obtain ⟨k, rfl⟩ := iL hlo e1
       cases hi with
       | none =>
        cases vhi with
        | some _ => exact hhi.elim
        | none => cases e2; simp [Instr.sliceBounds, Instr.sliceBound, asIntOf, d1, d2]
       | some A =>
        cases vhi with
        | none => exact hhi.elim
        | some v =>
         obtain ⟨k, rfl⟩ := iL hhi e2
         have h3 : ih <= (cap : Int) := by omega
         have h4 : 0 <= ih := by omega
         have h5 : (ih.toNat : Int) = ih := Int.toNat_of_nonneg h4
         simp only [Instr.sliceBounds, Instr.sliceBound, asIntOf, Sem.run_bind, Sem.run_pure, Result.andThen_ok, Sem.run_ite, h4, h3, and_self, if_true, d1, h5, d2]
   · cases hb
 · cases hb
end
section
variable {P : Program} {out : Nat -> Prop} {B : Nat -> Prop} {w : World} {Z : List (Option PB)} {H : List Blk}
def EW (w : World) (mu : Nat -> Prop) (Z : List (Option PB)) (lo : Option AV) (vlo : Option Value) : Prop :=
 match lo, vlo with | none, none => True | some A, some v => Rv w mu Z A v | _, _ => False
theorem xk (hI : Inv out B w Z H) {t : TypeId} {x : AV} {v : Value} {lo hi : Option AV} {vlo vhi : Option Value} {A : AV} (hx : Rv w (aM out Z H) Z x v)
  (hlo : EW w (aM out Z H) Z lo vlo) (hhi : EW w (aM out Z H) Z hi vhi) (h : tq P H t x lo hi = some A) : ∃ u, (Instr.sliceAt t v vlo vhi none).run P w = .ok u w /\ Rv w (aM out Z H) Z A u := by
 unfold tq at h
 split at h
 · rename_i e hu
   split at h
   · rename_i n nl cs len hn
     split at h
     · rename_i l h' hb
       cases h
       rcases hx with ⟨rfl, rfl, rfl, rfl⟩ | ⟨b, o, cap, rfl, hle, h3, h4⟩ | ⟨rfl, rfl, a, cap, rfl⟩
       · obtain ⟨r, r1, r2⟩ := cP (P := P) (w := w) (isS := true) (Nat.le_refl 0) hlo hhi hb
         have e1 : h' = 0 := by omega
         have e2 : l = 0 := by omega
         subst e1; subst e2
         exact ⟨.slice none 0 0, by simp [Instr.sliceAt, Instr.slice, run_underlying hu, r, bB hn], .inl ⟨rfl, rfl, by simp, rfl⟩⟩
       · obtain ⟨r, r1, r2⟩ := cP (P := P) (w := w) (isS := true) hle hlo hhi hb
         by_cases hc : cap = l
         · have e1 : h' - l = 0 := by omega
           refine ⟨.slice (some ⟨b, o, none⟩) (h' - l) (cap - l), by simp [Instr.sliceAt, Instr.slice, run_underlying hu, r, bB hn]; exact fun h => (h hc).elim, .inr (.inl ⟨b, o, cap - l, rfl, by omega, ?_, ?_⟩)⟩
           · intro hne; simp [e1] at hne
           · simp [e1, RvC]
         · refine ⟨.slice (some ⟨b, o + l * n, none⟩) (h' - l) (cap - l), by simp [Instr.sliceAt, Instr.slice, run_underlying hu, r, bB hn, hc, gx], .inr (.inl ⟨b, o + l * n, cap - l, rfl, by omega, ?_, ?_⟩)⟩
           · intro hne; exact h3 (by intro e0; subst e0; simp at hne)
           · exact RvC.take _ _ _ _ (RvC.drop _ _ _ _ h4)
       · obtain ⟨r, r1, r2⟩ := cP (P := P) (w := w) (isS := true) (Nat.zero_le cap) hlo hhi hb
         have e1 : h' = 0 := by omega
         have e2 : l = 0 := by omega
         subst e1; subst e2
         by_cases hc : cap = 0
         · exact ⟨.slice (some a) 0 0, by subst hc; simp [Instr.sliceAt, Instr.slice, run_underlying hu, r, bB hn], .inr (.inr ⟨rfl, by simp, a, 0, rfl⟩)⟩
         · exact ⟨.slice (some (a.add (0 * n))) 0 cap, by simp [Instr.sliceAt, Instr.slice, run_underlying hu, r, bB hn, hc], .inr (.inr ⟨rfl, by simp, _, cap, rfl⟩)⟩
     · cases h
   · rename_i n b off len es hn
     split at h
     · rename_i l h' hb hes
       cases h
       obtain rfl : es = n := by simpa using hes
       rcases hx with ⟨rfl, rfl⟩ | ⟨p, a, cap, h1, rfl, h2, hsp, h3⟩
       · obtain ⟨r, r1, r2⟩ := cP (P := P) (w := w) (isS := true) (Nat.le_refl 0) hlo hhi hb
         have e1 : h' = 0 := by omega
         have e2 : l = 0 := by omega
         subst e1; subst e2
         exact ⟨.slice none 0 0, by simp [Instr.sliceAt, Instr.slice, run_underlying hu, r, bB hn], .inl ⟨rfl, rfl⟩⟩
       obtain ⟨r, r1, r2⟩ := cP (P := P) (w := w) (isS := true) h2 hlo hhi hb
       by_cases hc : cap = l
       · refine ⟨.slice (some a) (h' - l) (cap - l), by simp [Instr.sliceAt, Instr.slice, run_underlying hu, r, bB hn]; exact fun h => (h hc).elim, .inr ⟨p, a, cap - l, h1, rfl, by omega, hsp, by omega⟩⟩
       · have h3' := h3 (by omega)
         refine ⟨.slice (some (a.add (l * es))) (h' - l) (cap - l), by simp [Instr.sliceAt, Instr.slice, run_underlying hu, r, bB hn, hc], .inr ⟨p, _, cap - l, h1, rfl, by omega, by rw [h3'.1, gx], fun _ => ⟨?_, ?_⟩⟩⟩
         · rw [h3'.1, gx, Nat.add_assoc]
         · have e0 : (cap - l) * es + l * es = cap * es := by rw [<- Nat.add_mul]; congr 1; omega
           omega
     · cases h
   · rename_i n hn
     split at h
     · rename_i lh hb
       cases h
       obtain rfl : v = .slice none 0 0 := hx
       obtain ⟨l, h'⟩ := lh
       obtain ⟨r, r1, r2⟩ := cP (P := P) (w := w) (isS := true) (Nat.le_refl 0) hlo hhi hb
       have e1 : h' = 0 := by omega
       have e2 : l = 0 := by omega
       subst e1; subst e2
       exact ⟨.slice none 0 0, by simp [Instr.sliceAt, Instr.slice, run_underlying hu, r, bB hn], rfl⟩
     · cases h
   · cases h
 · rename_i len e hu
   split at h
   · rename_i n b off hn
     split at h
     · rename_i l h' cs hb hH
       split at h
       · rename_i hfit
         simp only [Bool.and_eq_true, decide_eq_true_eq] at hfit
         cases h
         obtain ⟨p, h1, rfl⟩ := hx
         obtain ⟨r, r1, r2⟩ := cP (P := P) (w := w) (isS := false) (Nat.le_refl len) hlo hhi hb
         obtain ⟨⟨c, e', hheap, hsz⟩, hC⟩ := hI.ok b _ p hH h1
         by_cases hc : len = l
         · refine ⟨.slice (some ⟨p.blk, p.off + off, none⟩) (h' - l) (len - l), by simp [Instr.sliceAt, run_underlying hu, Instr.sureAddr, r, bB hn]; exact fun h => (h hc).elim, .inr ⟨p, _, len - l, h1, rfl, by omega, rfl, by omega⟩⟩
         · refine ⟨.slice (some ⟨p.blk, p.off + off + l * n, none⟩) (h' - l) (len - l), by simp [Instr.sliceAt, run_underlying hu, Instr.sureAddr, r, bB hn, hc, gx], .inr ⟨p, _, len - l, h1, rfl, by omega, rfl, fun _ => ⟨by rw [Nat.add_assoc], ?_⟩⟩⟩
           have hne : cs ≠ [] := by
            intro e0; subst e0
            have : 0 < len * n := Nat.mul_pos (by omega) hfit.2
            simp at hfit; omega
           have hbd := RvC.bound hC hheap hne
           have e0 : (len - l) * n + l * n = len * n := by rw [<- Nat.add_mul]; congr 1; omega
           omega
       · cases h
     · cases h
   · rename_i n cs off hn
     split at h
     · rename_i l h' hb
       cases h
       obtain ⟨b, o, rfl, h3, h4⟩ := hx
       obtain ⟨r, r1, r2⟩ := cP (P := P) (w := w) (isS := false) (Nat.le_refl len) hlo hhi hb
       by_cases hc : len = l
       · have e1 : h' - l = 0 := by omega
         refine ⟨.slice (some ⟨b, o + off, none⟩) (h' - l) (len - l), by simp [Instr.sliceAt, run_underlying hu, Instr.sureAddr, r, bB hn]; exact fun h => (h hc).elim, .inr (.inl ⟨b, o + off, len - l, rfl, by omega, ?_, ?_⟩)⟩
         · intro hne; simp [e1] at hne
         · simp [e1, RvC]
       · refine ⟨.slice (some ⟨b, o + off + l * n, none⟩) (h' - l) (len - l), by simp [Instr.sliceAt, run_underlying hu, Instr.sureAddr, r, bB hn, hc, gx], .inr (.inl ⟨b, o + off + l * n, len - l, rfl, by omega, ?_, ?_⟩)⟩
         · intro hne; exact h3 (by intro e0; subst e0; simp at hne)
         · rw [Nat.add_assoc]; exact RvC.take _ _ _ _ (RvC.drop _ _ _ _ h4)
     · cases h
   · cases h
 · cases h
theorem rX {mu : Nat -> Prop} {t : TypeId} {A : AV} {v x : Value} (hA : Rv w mu Z A v) (h : xe P t A x = true) :
  (binOp .eql t v x).run P w = .ok (.bool false) w /\ (binOp .neq t v x).run P w = .ok (.bool true) w /\ ∀ op a b, (eqGuard op t a b v x).run P w = .ok () w := by
 unfold xe at h
 split at h
 · rename_i e nl cs len hu
   rcases hA with ⟨h0, h1, _⟩ | ⟨b, o, cap, rfl, _⟩ | ⟨_, _, a, cap, rfl⟩
   · subst h0; subst h1; simp at h
   · have he := run_equal_slice_nil (P := P) w t e (some ⟨b, o, none⟩) len cap hu
     exact ⟨by simp [binOp, he], by simp [binOp, he], fun op a b => by cases op <;> simp [eqGuard]⟩
   · have he := run_equal_slice_nil (P := P) w t e (some a) 0 cap hu
     exact ⟨by simp [binOp, he], by simp [binOp, he], fun op a b => by cases op <;> simp [eqGuard]⟩
 · rename_i e b off len es hu
   rcases hA with ⟨rfl, _⟩ | ⟨p, a, cap, _, rfl, _⟩
   · simp at h
   have he := run_equal_slice_nil (P := P) w t e (some a) len cap hu
   exact ⟨by simp [binOp, he], by simp [binOp, he], fun op a b => by cases op <;> simp [eqGuard]⟩
 · rename_i e b off hu
   obtain ⟨p, _, rfl⟩ := hA
   have he := run_equal_pointer_nil (P := P) w t (some ⟨p.blk, p.off + off, none⟩) (by simp [Program.pointee, hu])
   exact ⟨by simp [binOp, he], by simp [binOp, he], fun op a b => by cases op <;> simp [eqGuard]⟩
 · rename_i e cs off hu
   obtain ⟨b, o, rfl, _⟩ := hA
   have he := run_equal_pointer_nil (P := P) w t (some ⟨b, o + off, none⟩) (by simp [Program.pointee, hu])
   exact ⟨by simp [binOp, he], by simp [binOp, he], fun op a b => by cases op <;> simp [eqGuard]⟩
 · cases h
theorem nA {mu : Nat -> Prop} {op : BinOp} {t : TypeId} {x y : Operand} {a b : AV} {va vb : Value} {A : AV} (ha : Rv w mu Z a va) (hb : Rv w mu Z b vb) (h : rZ P op t x y a b = some A) :
  ∃ u, (do eqGuard op t x y va vb; binOp op t va vb : Sem Value).run P w = .ok u w /\ Rv w mu Z A u := by
 unfold rZ at h
 split at h
 · rename_i u v hu hv
   have e1 := iu a va u ha hu
   have e2 := iu b vb v hb hv
   subst e1; subst e2
   split at h
   · rename_i r hr
     cases h
     exact ⟨r, fo hr w, rfl⟩
   · cases h
 · rename_i v hu hv
   have e2 := iu b vb v hb hv
   subst e2
   split at h
   · rename_i hn
     cases h
     obtain ⟨h1, _, h3⟩ := rX (P := P) ha hn
     exact ⟨_, by simp [h1, h3], rfl⟩
   · rename_i hn
     cases h
     obtain ⟨_, h1, h3⟩ := rX (P := P) ha hn
     exact ⟨_, by simp [h1, h3], rfl⟩
   · cases h
 · cases h
theorem iR {mu : Nat -> Prop} {A : AV} {v : Value} {cs : List AV} (h : Rv w mu Z A v) (hc : vL A = some cs) : ∃ vs : Array Value, v = .agg vs /\ RvL w mu Z cs vs.toList := by
 unfold vL at hc
 split at hc
 · cases hc; exact h
 · cases hc
   cases h
   exact ⟨_, rfl, eY _⟩
 · cases hc
theorem rp {mu : Nat -> Prop} {d' : Nat} {f : TypeId -> AV -> AV -> Option Bool} (hf : ∀ t a b r va vb, f t a b = some r -> Rv w mu Z a va -> Rv w mu Z b vb -> (Op.equalIn d' t va vb).run P w = .ok r w) {xs ys : List AV} {vs us : Array Value} (hx : RvL w mu Z xs vs.toList) (hy : RvL w mu Z ys us.toList) :
  ∀ (fs : List Field) (r : Bool), yH P f xs ys fs = some r -> (Op.eqFields d' vs us fs).run P w = .ok r w
 | [], r, h => by cases h; simp [Op.eqFields]
 | g :: fs, r, h => by
  simp only [yH] at h
  simp only [Op.eqFields]
  split at h
  · rename_i hn
    rw [if_neg (by simpa using hn)]
    exact rp hf hx hy fs r h
  · rename_i hn
    rw [if_pos (by simpa using hn)]
    split at h
    · rename_i a b ha hb
      obtain ⟨va, a1, a2⟩ := iP hx ha
      obtain ⟨vb, b1, b2⟩ := iP hy hb
      split at h
      · rename_i r0 s hr hs
        cases h
        have ih := rp hf hx hy fs s hs
        simp only [Sem.run_bind, a1, b1, Result.andThen_ok, hf _ a b r0 va vb hr a2 b2]
        cases r0 <;> simp [ih]
      · cases h
    · cases h
theorem uQ {mu : Nat -> Prop} {d' : Nat} {e : TypeId} {f : AV -> AV -> Option Bool} (hf : ∀ a b r va vb, f a b = some r -> Rv w mu Z a va -> Rv w mu Z b vb -> (Op.equalIn d' e va vb).run P w = .ok r w) {n : Nat} {xs ys : List AV} {vs us : Array Value} (hx : RvL w mu Z xs vs.toList) (hy : RvL w mu Z ys us.toList) :
  ∀ (m i : Nat) (r : Bool), zD P f e n xs ys m i = some r ->
   ((forIn (List.range' i m) ((none, ()) : Option Bool × Unit) fun j _ => do
    let a <- part e vs (j * n)
    let b <- part e us (j * n)
    let c <- Op.equalIn d' e a b
    if (!c) = true then pure (.done (some false, ())) else pure (.yield (none, ())) : Sem (Option Bool × Unit)).run P w) = .ok (if r then (none, ()) else (some false, ())) w
 | 0, i, r, h => by cases h; simp
 | m + 1, i, r, h => by
  simp only [zD] at h
  split at h
  · rename_i a b ha hb
    obtain ⟨va, a1, a2⟩ := iP hx ha
    obtain ⟨vb, b1, b2⟩ := iP hy hb
    split at h
    · rename_i r0 s hr hs
      cases h
      have ih := uQ hf hx hy m (i + 1) s hs
      simp only [List.range'_succ, List.forIn_cons, Sem.run_bind, a1, b1, Result.andThen_ok, hf a b r0 va vb hr a2 b2]
      cases r0
      · simp
      · simp only [Bool.not_true, Bool.false_eq_true, if_false, Sem.run_pure, Result.andThen_ok, Bool.true_and]
        exact ih
    · cases h
  · cases h
theorem my {mu : Nat -> Prop} : ∀ (d d' : Nat) (t : TypeId) (a b : AV) (r : Bool) (va vb : Value), d <= d' -> tA P d t a b = some r -> Rv w mu Z a va -> Rv w mu Z b vb -> (Op.equalIn d' t va vb).run P w = .ok r w
 | 0, _, _, _, _, _, _, _, _, h, _, _ => by cases h
 | d + 1, 0, _, _, _, _, _, _, hd, _, _, _ => by omega
 | d + 1, d' + 1, t, a, b, r, va, vb, hd, h, ha, hb => by
  simp only [tA] at h
  split at h
  · rename_i k0 hu
    split at h
    · rename_i k x k' y
      split at h
      · rename_i hk
        cases h
        obtain rfl := IntKind.mO hk
        cases ha; cases hb
        exact run_equalIn_int w d' t _ _ x y hu
      · cases h
    · cases h
  · rename_i hu
    split at h
    · cases h; cases ha; cases hb
      exact run_equalIn_bool' w d' t _ _ hu
    · cases h
  · rename_i fs hu
    split at h
    · rename_i xs ys hs hx hy
      obtain ⟨vs, rfl, h1⟩ := iR ha hx
      obtain ⟨us, rfl, h2⟩ := iR hb hy
      have hfs : P.fieldsOf t = fs := by unfold Program.fieldsOf; rw [hu]
      rw [run_equalIn_struct w d' t vs us (by rw [hfs]; exact hu) hs, hfs]
      exact rp (fun t a b r va vb h ha hb => my d d' t a b r va vb (by omega) h ha hb) h1 h2 _ r h
    · cases h
  · rename_i n e hu
    split at h
    · rename_i k xs ys hs hx hy
      obtain ⟨vs, rfl, h1⟩ := iR ha hx
      obtain ⟨us, rfl, h2⟩ := iR hb hy
      have key := uQ (n := k) (fun a b r va vb h ha hb => my d d' e a b r va vb (by omega) h ha hb) h1 h2 n 0 r h
      simp only [Op.equalIn, Sem.run_bind, run_underlying hu, Result.andThen_ok, bB hs, Std.Legacy.Range.forIn_eq_forIn_range', Std.Legacy.Range.size, Nat.sub_zero, Nat.add_sub_cancel, Nat.div_one]
      rw [key]
      cases r <;> simp
    · cases h
  · cases h
theorem sK {mu : Nat -> Prop} {op : BinOp} {t : TypeId} {x y : Operand} {a b : AV} {va vb : Value} {A : AV} (ha : Rv w mu Z a va) (hb : Rv w mu Z b vb) (h : xA P op t a b = some A) :
  ∃ u, (do eqGuard op t x y va vb; binOp op t va vb : Sem Value).run P w = .ok u w /\ Rv w mu Z A u := by
 unfold xA at h
 split at h
 · rename_i xs ys hg hx hy
   obtain ⟨vs, rfl, _⟩ := iR ha hx
   obtain ⟨us, rfl, _⟩ := iR hb hy
   split at h
   · rename_i r hr
     cases h
     refine ⟨.bool r, ?_, rfl⟩
     simp only [Sem.run_bind, run_eqGuard_agg w .eql t x y vs us hg, Result.andThen_ok, run_eql_struct, my 8 10000 t a b r _ _ (by omega) hr ha hb]
   · cases h
 · rename_i xs ys hg hx hy
   obtain ⟨vs, rfl, _⟩ := iR ha hx
   obtain ⟨us, rfl, _⟩ := iR hb hy
   split at h
   · rename_i r hr
     cases h
     refine ⟨.bool (!r), ?_, rfl⟩
     simp only [Sem.run_bind, run_eqGuard_agg w .neq t x y vs us hg, Result.andThen_ok, run_neq_struct, my 8 10000 t a b r _ _ (by omega) hr ha hb]
   · cases h
 · cases h
theorem wY {mu : Nat -> Prop} {op : BinOp} {t : TypeId} {x y : Operand} {a b : AV} {va vb : Value} {A : AV} (ha : Rv w mu Z a va) (hb : Rv w mu Z b vb) (h : ta P op t x y a b = some A) :
  ∃ u, (do eqGuard op t x y va vb; binOp op t va vb : Sem Value).run P w = .ok u w /\ Rv w mu Z A u := by
 unfold ta at h
 split at h
 · rename_i k m k' n
   split at h
   · rename_i hk
     obtain rfl := IntKind.mO hk
     split at h
     · rename_i r hr
       cases h; cases ha; cases hb
       exact ⟨r, xC hr w, rfl⟩
     · exact nA ha hb h
   · exact nA ha hb h
 · exact sK ha hb h
 · exact sK ha hb h
 · exact nA ha hb h
theorem yy {mu : Nat -> Prop} {src dst : TypeId} {a : AV} {v u : Value} (ha : Rv w mu Z a v) (h : Cv P src dst a = some u) : (convert src dst v).run P w = .ok u w := by
 unfold Cv at h
 split at h
 · split at h
   · rename_i d k hs hd
     cases h; cases ha
     simp [convert, run_underlying hs, run_underlying hd, Conv.intToInt, jt]
   · cases h
 · cases h
end
end Go.Eng


namespace Go.Eng
open Go Go.RowKit Go.MapKept
variable [Dr]
section
variable {P : Program} {out : Nat -> Prop} {B : Nat -> Prop} {w : World} {Z : List (Option PB)} {H : List Blk}
theorem tj : ∀ (l l' : List Value), pd l l' = some true -> l = l' /\ (l'.zip l).all (fun (x, y) => Instr.sameBits 9999 x y) = true
 | [], [], _ => ⟨rfl, rfl⟩
 | .int k x :: l, .int k' y :: l', h => by
  simp only [pd] at h
  split at h
  · rename_i r' hk h1
    simp only [Option.some.injEq, Bool.and_eq_true, beq_iff_eq] at h
    obtain ⟨rfl, rfl⟩ := h
    obtain rfl := IntKind.mO hk
    obtain ⟨rfl, h2⟩ := tj l l' h1
    exact ⟨rfl, by rw [List.zip_cons_cons, List.all_cons, h2]; simp [Instr.sameBits]⟩
  · cases h
 | [], _ :: _, h => by simp [pd] at h
theorem xP {k v : Value} (h : kEq k v = some true) : Instr.sameBits 10000 v k = true := by
 unfold kEq at h
 split at h
 · rename_i a b
   obtain ⟨h1, h2⟩ := tj _ _ h
   have hs : b.size = a.size := by have := congrArg List.length h1; simpa using this.symm
   show (b.size == a.size && (b.toList.zip a.toList).all fun (x, y) => Instr.sameBits 9999 x y) = true
   rw [h2, hs]; simp
 · split at h
   · rename_i hb
     have e := IntKind.mO hb
     subst e
     simp only [Option.some.injEq, beq_iff_eq] at h
     subst h; simp [Instr.sameBits]
   · cases h
 · simp only [Option.some.injEq, beq_iff_eq] at h
   subst h; simp [Instr.sameBits]
 · cases h
theorem mh {e : TypeId} (h : nC P e = true) : (∃ k, P.underlying e = some (.int k)) /\ eW P e = some 1 /\ BB P e = some false := by
 unfold nC at h
 split at h
 · rename_i k n hu hs
   obtain rfl := Nat.eq_of_beq_eq_true h
   exact ⟨⟨k, hu⟩, hs, by unfold BB; rw [hu]⟩
 · cases h
theorem yD {e : TypeId} (h : nC P e = true) {k k' : IntKind} {x y : Int} (hk : IntKind.sG k k' = true) (d : Nat) : tA P (d + 1) e (.at (.int k x)) (.at (.int k' y)) = some (x == y) := by
 obtain ⟨⟨q, hu⟩, _, _⟩ := mh h
 simp only [tA, hu, hk]
theorem wQ {e : TypeId} (h : nC P e = true) (xs : List Value) (i : Nat) : pq P e (xs.map .at) i = (xs[i]?).map .at := by
 obtain ⟨_, _, ha⟩ := mh h
 simp only [pq, ha, List.getElem?_map]
theorem drop_cons {xs l : List Value} {x : Value} {i : Nat} (h : xs.drop i = x :: l) : xs[i]? = some x /\ xs.drop (i + 1) = l := by
 have h1 : xs[i]? = some x := by rw [<- List.head?_drop, h]; rfl
 refine ⟨h1, ?_⟩
 rw [<- List.drop_drop, h]; rfl
theorem CS {xs ys : List Value} : ∀ (fs : List Field) (i : Nat) (r : Bool), th P fs i = true -> pd (xs.drop i) (ys.drop i) = some r -> (xs.drop i).length = fs.length -> yH P (tA P 1) (xs.map .at) (ys.map .at) fs = some r
 | [], i, r, _, h, hl => by
  have : xs.drop i = [] := List.length_eq_zero_iff.1 hl
  rw [this] at h
  cases hy : ys.drop i with
  | nil => rw [hy] at h; simp only [pd] at h; simp only [yH]; exact h
  | cons y l => rw [hy] at h; simp [pd] at h
 | f :: fs, i, r, hw, h, hl => by
  simp only [th, Bool.and_eq_true] at hw
  obtain ⟨⟨⟨w1, w2⟩, w3⟩, w4⟩ := hw
  have w2 := Nat.eq_of_beq_eq_true w2
  cases hx : xs.drop i with
  | nil => rw [hx] at hl; simp at hl
  | cons x l =>
   cases hy : ys.drop i with
   | nil => rw [hx, hy] at h; cases x <;> simp [pd] at h
   | cons y l' =>
    obtain ⟨x1, x2⟩ := drop_cons hx
    obtain ⟨y1, y2⟩ := drop_cons hy
    rw [hx, hy] at h
    have hl' : (xs.drop (i + 1)).length = fs.length := by rw [x2]; rw [hx] at hl; simpa using hl
    unfold pd at h
    split at h
    · rename_i e1 _; cases e1
    · rename_i k a l0 k' b l0' e1 e2
      cases e1; cases e2
      split at h
      · rename_i r' hk h1
        cases h
        have ih := CS (xs := xs) (ys := ys) fs (i + 1) r' w4 (by rw [x2, y2]; exact h1) hl'
        have hn : decide (f.name = "_") = false := by simpa using w1
        simp only [yH, hn, wQ w3, w2, x1, y1, Option.map_some, yD w3 hk, ih]
      · cases h
    · cases h
theorem CU {e : TypeId} (w3 : nC P e = true) {xs ys : List Value} : ∀ (m i : Nat) (r : Bool), pd (xs.drop i) (ys.drop i) = some r -> (xs.drop i).length = m -> zD P (tA P 1 e) e 1 (xs.map .at) (ys.map .at) m i = some r
 | 0, i, r, h, hl => by
  have : xs.drop i = [] := List.length_eq_zero_iff.1 hl
  rw [this] at h
  cases hy : ys.drop i with
  | nil => rw [hy] at h; simp only [pd] at h; simp only [zD]; exact h
  | cons y l => rw [hy] at h; simp [pd] at h
 | m + 1, i, r, h, hl => by
  cases hx : xs.drop i with
  | nil => rw [hx] at hl; simp at hl
  | cons x l =>
   cases hy : ys.drop i with
   | nil => rw [hx, hy] at h; cases x <;> simp [pd] at h
   | cons y l' =>
    obtain ⟨x1, x2⟩ := drop_cons hx
    obtain ⟨y1, y2⟩ := drop_cons hy
    rw [hx, hy] at h
    have hl' : (xs.drop (i + 1)).length = m := by rw [x2]; rw [hx] at hl; simpa using hl
    unfold pd at h
    split at h
    · rename_i e1 _; cases e1
    · rename_i k a l0 k' b l0' e1 e2
      cases e1; cases e2
      split at h
      · rename_i r' hk h1
        cases h
        have ih := CU w3 (xs := xs) (ys := ys) m (i + 1) r' (by rw [x2, y2]; exact h1) hl'
        simp only [zD, Nat.mul_one, wQ w3, x1, y1, Option.map_some, yD w3 hk, ih]
      · cases h
    · cases h
theorem ux {t : TypeId} {a b : Array Value} {r : Bool} (ha : ma P t a = true) (h : pd a.toList b.toList = some r) (w : World) : (Op.equal t (.agg a) (.agg b)).run P w = .ok r w := by
 have key : tA P 2 t (.at (.agg a)) (.at (.agg b)) = some r := by
  unfold ma at ha
  split at ha
  · rename_i n e hu
    simp only [Bool.and_eq_true] at ha
    obtain ⟨⟨h1, h2⟩, _⟩ := ha
    obtain ⟨_, hs, _⟩ := mh h1
    have h2 := Nat.eq_of_beq_eq_true h2
    simp only [tA, hu, hs, vL]
    exact CU h1 n 0 r (by simpa using h) (by simpa using h2)
  · rename_i fs hu
    simp only [Bool.and_eq_true] at ha
    obtain ⟨⟨⟨h1, h2⟩, _⟩, h4⟩ := ha
    have h2 := Nat.eq_of_beq_eq_true h2
    have h4 : P.stoodInHeld t = false := by simpa using h4
    simp only [tA, hu, h4, vL]
    exact CS fs.toList 0 r h1 (by simpa using h) (by simpa using h2)
  · cases ha
 exact my (P := P) (w := w) (mu := fun _ => False) (Z := []) 2 10000 t _ _ r _ _ (by omega) key rfl rfl
theorem Bm {e : TypeId} (h : nC P e = true) (em : Bool) (n : Nat) {k : IntKind} {x : Int} (w : World) : (Instr.checkKey em (n + 1) e (.int k x)).run P w = .ok () w := by
 obtain ⟨⟨q, hu⟩, _, _⟩ := mh h
 simp [Instr.checkKey, run_underlying hu]
theorem vF : ∀ (l : List Value), sC l = true -> ∀ (i : Nat) (v : Value), l[i]? = some v -> ∃ k x, v = .int k x
 | [], _, i, v, hi => by simp at hi
 | .int k x :: l, h, i, v, hi => by
  cases i with
  | zero => simp at hi; exact ⟨k, x, hi.symm⟩
  | succ i => exact vF l (by simpa [sC] using h) i v (by simpa using hi)
theorem yP {e : TypeId} (h : nC P e = true) {xs : Array Value} {i : Nat} {v : Value} (hx : xs[i]? = some v) (w : World) : (part e xs i).run P w = .ok v w := by
 obtain ⟨⟨q, hu⟩, _, _⟩ := mh h
 simp [part, isAgg, run_underlying hu, hx]
theorem xW {t : TypeId} {a : Array Value} (ha : ma P t a = true) (em : Bool) (n : Nat) (w : World) (hn : ∀ (e : TypeId) (k : IntKind) (x : Int), nC P e = true -> (Instr.checkKey em n e (.int k x)).run P w = .ok () w) : (Instr.checkKey em (n + 1) t (.agg a)).run P w = .ok () w := by
 unfold ma at ha
 split at ha
 · rename_i m0 e hu
   simp only [Bool.and_eq_true] at ha
   obtain ⟨⟨h1, h2⟩, h3⟩ := ha
   obtain ⟨_, hs, _⟩ := mh h1
   have h2 := Nat.eq_of_beq_eq_true h2
   have key : ∀ (m i : Nat), i + m <= a.size -> ((forIn (List.range' i m) PUnit.unit fun j _ => do
     let s <- sizeOf e
     let v <- part e a (j * s)
     Instr.checkKey em n e v
     pure (ForInStep.yield PUnit.unit) : Sem PUnit).run P w) = .ok PUnit.unit w := by
    intro m
    induction m with
    | zero => intro i _; simp
    | succ m ih =>
     intro i hi
     have hlt : i < a.size := by omega
     have hx : a[i]? = some a[i] := Array.getElem?_eq_getElem hlt
     obtain ⟨k, x, e1⟩ := vF a.toList h3 i a[i] (by rw [Array.getElem?_toList]; exact hx)
     simp only [List.range'_succ, List.forIn_cons, Sem.run_bind, bB hs, Result.andThen_ok, Nat.mul_one, yP h1 hx, e1, hn e k x h1, Sem.run_pure]
     exact ih (i + 1) (by omega)
   have := key m0 0 (by omega)
   simp only [Instr.checkKey, Sem.run_bind, run_underlying hu, Result.andThen_ok, Std.Legacy.Range.forIn_eq_forIn_range', Std.Legacy.Range.size, Nat.sub_zero, Nat.add_sub_cancel, Nat.div_one, this, Sem.run_pure]
 · rename_i fs hu
   simp only [Bool.and_eq_true] at ha
   obtain ⟨⟨⟨h1, h2⟩, h3⟩, _⟩ := ha
   have h2 := Nat.eq_of_beq_eq_true h2
   have key : ∀ (l : List Field) (i : Nat), th P l i = true -> i + l.length <= a.size -> ((forIn l PUnit.unit fun f _ =>
     if f.name ≠ "_" then do
      let v <- part f.type a f.offset
      Instr.checkKey em n f.type v
      pure (ForInStep.yield PUnit.unit)
     else pure (ForInStep.yield PUnit.unit) : Sem PUnit).run P w) = .ok PUnit.unit w := by
    intro l
    induction l with
    | nil => intro i _ _; simp
    | cons f l ih =>
     intro i hw hi
     simp only [th, Bool.and_eq_true] at hw
     obtain ⟨⟨⟨w1, w2⟩, w3⟩, w4⟩ := hw
     have w2 := Nat.eq_of_beq_eq_true w2
     have hlt : i < a.size := by simp at hi; omega
     have hx : a[i]? = some a[i] := Array.getElem?_eq_getElem hlt
     obtain ⟨k, x, e1⟩ := vF a.toList h3 i a[i] (by rw [Array.getElem?_toList]; exact hx)
     have hnm : f.name ≠ "_" := by simpa using w1
     simp only [List.forIn_cons, Sem.run_bind, hnm, ne_eq, not_false_eq_true, if_true, w2, yP w3 hx, Result.andThen_ok, e1, hn f.type k x w3, Sem.run_pure]
     exact ih (i + 1) w4 (by simp at hi; omega)
   have := key fs.toList 0 h1 (by omega)
   simp only [Instr.checkKey, Sem.run_bind, run_underlying hu, Result.andThen_ok]
   rw [<- Array.forIn_toList]
   have e := congrArg (fun r => r.andThen fun (a : PUnit) w' => Sem.run P (pure ()) w') this
   simp only [Result.andThen_ok, Sem.run_pure] at e
   first | exact this | exact e
 · cases ha
theorem zr {t : TypeId} {a : Array Value} (ha : ma P t a = true) (em : Bool) (w : World) : (Instr.checkKey em 10000 t (.agg a)).run P w = .ok () w := xW ha em 9999 w fun e k x h => Bm h em 9998 w
theorem qT {mu : Nat -> Prop} {t : TypeId} {a : Array Value} (ha : ma P t a = true) : ∀ (es : List (Value × AV)) (l : List MapEntry) (i0 j : Nat) (r : Option (Nat × AV)), RvM w mu Z j es l -> jT (.agg a) es i0 = some r ->
  (r = none /\ (Instr.findAsking t (.agg a) l i0).run P w = .ok none w) \/ ∃ (jx : Nat) (e : MapEntry) (A : AV), r = some (i0 + jx, A) /\ (Instr.findAsking t (.agg a) l i0).run P w = .ok (some (i0 + jx, e.val)) w /\ l[jx]? = some e /\ es[jx]? = some (e.key, A) /\ e.born = j + jx /\ Rv w mu Z A e.val /\ Instr.sameBits 10000 e.key (.agg a) = true
 | [], l, i0, j, r, h, hf => by cases h; cases hf; exact .inl ⟨rfl, by simp [Instr.findAsking]⟩
 | (k', A) :: es, l, i0, j, r, h, hf => by
  obtain ⟨e, l', rfl, rfl, h0, h3, h4⟩ := h
  simp only [jT] at hf
  have hag : ∀ b, kEq (.agg a) e.key = some b -> ∃ c, e.key = .agg c /\ pd a.toList c.toList = some b := by
   intro b hb
   cases hk : e.key <;> rw [hk] at hb <;> simp only [kEq] at hb
   all_goals first | exact ⟨_, rfl, hb⟩ | cases hb
  split at hf
  · rename_i hb
    cases hf
    obtain ⟨c, hc, hq⟩ := hag _ hb
    refine .inr ⟨0, e, A, rfl, ?_, rfl, rfl, h0, h3, xP hb⟩
    simp only [Instr.findAsking, hc, Sem.run_bind, ux ha hq, Result.andThen_ok, if_true, Sem.run_pure, Nat.add_zero]
  · rename_i hb
    obtain ⟨c, hc, hq⟩ := hag _ hb
    have hstep : (Instr.findAsking t (.agg a) (e :: l') i0).run P w = (Instr.findAsking t (.agg a) l' (i0 + 1)).run P w := by
     simp only [Instr.findAsking, hc, Sem.run_bind, ux ha hq, Result.andThen_ok, Bool.false_eq_true, if_false]
    rcases qT ha es l' (i0 + 1) (j + 1) r h4 hf with ⟨e1, e2⟩ | ⟨jx, e', A', e1, e2, e3, e4, e5, e6, e7⟩
    · exact .inl ⟨e1, by rw [hstep]; exact e2⟩
    · exact .inr ⟨jx + 1, e', A', by rw [e1]; congr 2; omega, by rw [hstep, e2]; congr 3; omega, by simpa using e3, by simpa using e4, by omega, e6, e7⟩
  · cases hf
theorem Ae {d : TypeDesc} {k v : Value} {b : Bool} (hk : IsKey d k) (h : kEq k v = some b) : Instr.sameNow d k v = some b := by
 unfold kEq at h
 split at h
 · cases d <;> simp only [IsKey] at hk
 · rename_i k1 x k2 y
   split at h
   · rename_i hb
     cases h
     have e := IntKind.mO hb
     subst e
     cases d <;> simp only [IsKey] at hk
     simp [Instr.sameNow]
   · cases h
 · cases h
   cases d <;> simp only [IsKey] at hk
   simp [Instr.sameNow]
 · cases h
theorem tK {mu : Nat -> Prop} {d : TypeDesc} {k : Value} (hk : IsKey d k) : ∀ (es : List (Value × AV)) (l : List MapEntry) (i0 j : Nat) (r : Option (Nat × AV)), RvM w mu Z j es l -> jT k es i0 = some r ->
  (r = none /\ Instr.findNow d k l i0 = some none) \/ ∃ (jx : Nat) (e : MapEntry) (A : AV), r = some (i0 + jx, A) /\ Instr.findNow d k l i0 = some (some (i0 + jx, e.val)) /\ l[jx]? = some e /\ es[jx]? = some (e.key, A) /\ e.born = j + jx /\ Rv w mu Z A e.val /\ Instr.sameBits 10000 e.key k = true
 | [], l, i0, j, r, h, hf => by cases h; cases hf; exact .inl ⟨rfl, rfl⟩
 | (k', A) :: es, l, i0, j, r, h, hf => by
  obtain ⟨e, l', rfl, rfl, h0, h3, h4⟩ := h
  simp only [jT] at hf
  split at hf
  · rename_i hb
    cases hf
    have g1 := Ae hk hb
    exact .inr ⟨0, e, A, rfl, by simp [Instr.findNow, g1], rfl, rfl, h0, h3, xP hb⟩
  · rename_i hb
    have g1 := Ae hk hb
    rcases tK hk es l' (i0 + 1) (j + 1) r h4 hf with ⟨e1, e2⟩ | ⟨jx, e', A', e1, e2, e3, e4, e5, e6, e7⟩
    · exact .inl ⟨e1, by simp [Instr.findNow, g1, e2]⟩
    · exact .inr ⟨jx + 1, e', A', by rw [e1]; congr 2; omega, by simp [Instr.findNow, g1, e2]; omega, by simpa using e3, by simpa using e4, by omega, e6, e7⟩
  · cases hf
theorem kJ {mu : Nat -> Prop} {t : TypeId} {k : Value} (hk : ij P t k = true) {es : List (Value × AV)} {l : List MapEntry} {r : Option (Nat × AV)} (h : RvM w mu Z 0 es l) (hf : jT k es 0 = some r) :
  (∀ em, (Instr.checkKey em 10000 t k).run P w = .ok () w) /\ ((r = none /\ (Instr.findKey t k l).run P w = .ok none w) \/ ∃ (jx : Nat) (e : MapEntry) (A : AV), r = some (0 + jx, A) /\ (Instr.findKey t k l).run P w = .ok (some (0 + jx, e.val)) w /\ l[jx]? = some e /\ es[jx]? = some (e.key, A) /\ e.born = 0 + jx /\ Rv w mu Z A e.val /\ Instr.sameBits 10000 e.key k = true) := by
 have simple : ∀ d, P.underlying t = some d -> IsKey d k -> _ := fun d hd hkd => by
  refine And.intro (a := ∀ em, (Instr.checkKey em 10000 t k).run P w = .ok () w) (b := (r = none /\ (Instr.findKey t k l).run P w = .ok none w) \/ ∃ (jx : Nat) (e : MapEntry) (A : AV), r = some (0 + jx, A) /\ (Instr.findKey t k l).run P w = .ok (some (0 + jx, e.val)) w /\ l[jx]? = some e /\ es[jx]? = some (e.key, A) /\ e.born = 0 + jx /\ Rv w mu Z A e.val /\ Instr.sameBits 10000 e.key k = true) (fun em => Go.MapKept.run_checkKey hd hkd em 9999) ?_
  rcases tK hkd es l 0 0 _ h hf with ⟨e1, e2⟩ | ⟨jx, en, A2, e1, e2, e3, e4, e5, e6, e7⟩
  · exact .inl ⟨e1, Go.MapKept.run_findKey hd e2⟩
  · exact .inr ⟨jx, en, A2, e1, Go.MapKept.run_findKey hd e2, e3, e4, e5, e6, e7⟩
 unfold ij at hk
 split at hk
 · rename_i k1 k2 n hu; exact simple _ hu (IntKind.mO hk).symm
 · rename_i b hu; exact simple _ hu trivial
 · rename_i q1 a hu
   refine ⟨fun em => zr hk em w, ?_⟩
   have hw : (Instr.findKey t (.agg a) l).run P w = (Instr.findAsking t (.agg a) l).run P w := by
    cases l with
    | nil => simp [Instr.findKey, run_underlying hu, Instr.findNow, Instr.findAsking]
    | cons e l =>
     unfold ma at hk
     split at hk
     · rename_i n e' hu'; simp [Instr.findKey, run_underlying hu', Instr.findNow, Instr.sameNow]
     · rename_i fs hu'; simp [Instr.findKey, run_underlying hu', Instr.findNow, Instr.sameNow]
     · cases hk
   rw [hw]
   exact qT hk es l 0 0 _ h hf
 · cases hk
theorem RvM.len {mu : Nat -> Prop} : ∀ (es : List (Value × AV)) (l : List MapEntry) (j : Nat), RvM w mu Z j es l -> l.length = es.length
 | [], _, _, h => by cases h; rfl
 | (k, A) :: es, _, j, h => by obtain ⟨e, l', rfl, _, _, _, h4⟩ := h; simp [RvM.len es l' _ h4]
theorem RvM.get {mu : Nat -> Prop} : ∀ (es : List (Value × AV)) (l : List MapEntry) (j i : Nat) (k : Value) (A : AV), RvM w mu Z j es l -> es[i]? = some (k, A) -> ∃ e, l[i]? = some e /\ e.key = k /\ e.born = j + i /\ Rv w mu Z A e.val
 | [], _, _, i, k, A, _, h => by simp at h
 | (k', A') :: es, _, j, i, k, A, h, hi => by
  obtain ⟨e, l', rfl, h2, h0, h3, h4⟩ := h
  cases i with
  | zero => simp at hi; obtain ⟨rfl, rfl⟩ := hi; exact ⟨e, rfl, h2, h0, h3⟩
  | succ i =>
   obtain ⟨e', g1, g2, g3, g4⟩ := RvM.get es l' (j + 1) i k A h4 (by simpa using hi)
   exact ⟨e', by simpa using g1, g2, by omega, g4⟩
theorem RvM.set {mu : Nat -> Prop} {k : Value} {A : AV} {v : Value} (hA : Rv w mu Z A v) : ∀ (es : List (Value × AV)) (l : List MapEntry) (j i : Nat), RvM w mu Z j es l -> RvM w mu Z j (es.set i (k, A)) (l.modify i fun e => { e with key := k, val := v })
 | [], _, _, i, h => by cases h; cases i <;> simp [RvM]
 | (k', A') :: es, _, j, i, h => by
  obtain ⟨e, l', rfl, h2, h0, h3, h4⟩ := h
  cases i with
  | zero => exact ⟨_, l', rfl, rfl, h0, hA, h4⟩
  | succ i => exact ⟨e, _, rfl, h2, h0, h3, RvM.set hA es l' (j + 1) i h4⟩
theorem RvM.snoc {mu : Nat -> Prop} {k : Value} {A : AV} {v : Value} (hA : Rv w mu Z A v) : ∀ (es : List (Value × AV)) (l : List MapEntry) (j : Nat), RvM w mu Z j es l -> RvM w mu Z j (es ++ [(k, A)]) (l ++ [{ key := k, val := v, born := j + es.length }])
 | [], _, j, h => by cases h; exact ⟨_, [], rfl, rfl, rfl, hA, rfl⟩
 | (k', A') :: es, _, j, h => by
  obtain ⟨e, l', rfl, h2, h0, h3, h4⟩ := h
  have := RvM.snoc (k := k) hA es l' (j + 1) h4
  rw [show j + 1 + es.length = j + ((k', A') :: es).length by simp; omega] at this
  exact ⟨e, _, rfl, h2, h0, h3, this⟩
theorem kV (hI : Inv out B w Z H) {x : AV} {v : Value} {b : Nat} {es : List (Value × AV)} (hx : Rv w (aM out Z H) Z x v) (h : jk H x = some (b, es)) :
  H[b]? = some (.map es) /\ ∃ (p : PB) (a : Array MapEntry), v = .map (some p.blk) /\ Z[b]? = some (some p) /\ w.heap[p.blk]? = some (.map a a.size) /\ RvM w (aM out Z H) Z 0 es a.toList := by
 unfold jk at h
 split at h
 · rename_i b'
   split at h
   · rename_i es' hb
     cases h
     obtain ⟨p, hp, rfl⟩ := hx
     obtain ⟨a, h1, h2⟩ := hI.ok _ _ p hb hp
     exact ⟨hb, p, a, rfl, hp, h1, h2⟩
   · cases h
 · cases h
theorem tZ {e : TypeId} {z : AV} (h : wJ P e = some z) : ∃ zv, (∀ w, (zeroValue e).run P w = .ok zv w) /\ ∀ (w : World) (mu : Nat -> Prop) (Z : List (Option PB)), Rv w mu Z z zv := by
 unfold wJ at h
 split at h
 · rename_i i hi
   split at h
   · rename_i a ha
     cases h
     exact ⟨.agg a, fun w => by simp [zeroValue, typeInfo, hi, ha], fun w mu Z => ⟨a, rfl, eY _⟩⟩
   · rename_i v _ hv
     cases h
     exact ⟨v, fun w => by simp [zeroValue, typeInfo, hi, hv], fun w mu Z => rfl⟩
   · cases h
 · cases h
theorem vK (hI : Inv out B w Z H) {t : TypeId} {x ix : AV} {v vi : Value} {ok : Bool} {A : AV} (hx : Rv w (aM out Z H) Z x v) (hi : Rv w (aM out Z H) Z ix vi) (h : eN P H t x ix ok = some A) :
  ∃ u, (Instr.lookup t v vi ok).run P w = .ok u w /\ Rv w (aM out Z H) Z A u := by
 unfold eN at h
 split at h
 · rename_i kt e b es k hu hm hk0
   obtain ⟨_, p, a, rfl, hp, hb, hr⟩ := kV hI hx hm
   obtain rfl : vi = k := iu ix vi k hi hk0
   have tup2 : ∀ {A' : AV} {u : Value} {c : Bool}, Rv w (aM out Z H) Z A' u -> Rv w (aM out Z H) Z (.tup [A', .at (.bool c)]) (.tuple #[u, .bool c]) := fun h => ⟨_, rfl, _, _, rfl, h, _, _, rfl, rfl, rfl⟩
   split at h
   · rename_i z i A' hk hz hf
     obtain ⟨hck, hfs⟩ := kJ hk hr hf
     rcases hfs with ⟨e1, _⟩ | ⟨jx, en, A2, e1, e2, _, _, _, e6, _⟩
     · cases e1
     · cases e1
       have run : ∀ o, (Instr.lookup t (.map (some p.blk)) vi o).run P w = .ok (if o then .tuple #[en.val, .bool true] else en.val) w := by
        intro o
        simp only [Instr.lookup, Sem.run_bind, run_underlying hu, Result.andThen_ok, Go.MapKept.run_getObj_map hb, Sem.run_pure, hck, e2]
       cases h
       refine ⟨_, run ok, ?_⟩
       cases ok
       · exact e6
       · exact tup2 e6
   · rename_i z hk hz hf
     obtain ⟨hck, hfs⟩ := kJ hk hr hf
     obtain ⟨zv, hz1, hz2⟩ := tZ hz
     rcases hfs with ⟨_, e2⟩ | ⟨jx, en, A2, e1, _⟩
     · have run : ∀ o, (Instr.lookup t (.map (some p.blk)) vi o).run P w = .ok (if o then .tuple #[zv, .bool false] else zv) w := by
        intro o
        simp only [Instr.lookup, Sem.run_bind, run_underlying hu, Result.andThen_ok, Go.MapKept.run_getObj_map hb, Sem.run_pure, hck, e2, hz1]
       cases h
       refine ⟨_, run ok, ?_⟩
       cases ok
       · exact hz2 _ _ _
       · exact tup2 (hz2 _ _ _)
     · cases e1
   · cases h
 · cases h
theorem toList_modify (a : Array MapEntry) (i : Nat) (f : MapEntry -> MapEntry) : (a.modify i f).toList = a.toList.modify i f := by simp
theorem sm (hI : Inv out B w Z H) {b : Nat} {es es' : List (Value × AV)} {p : PB} {a a' : Array MapEntry} (hH : H[b]? = some (.map es)) (hp : Z[b]? = some (some p)) (hb : w.heap[p.blk]? = some (.map a a.size))
  (hy : ∀ (w' : World) (mu' : Nat -> Prop), (∀ A v, Rv w (aM out Z H) Z A v -> Rv w' mu' Z A v) -> RvM w' mu' Z 0 es' a'.toList) :
  ∃ w', w' = { w with heap := w.heap.setIfInBounds p.blk (.map a' a'.size) } /\ Ext B w w' (aM out Z H) (aM out Z (aP H [(b, .map es')])) Z Z /\ Inv out B w' Z (aP H [(b, .map es')]) := by
 have hu : aP H [(b, .map es')] = H.set b (.map es') := by simp [aP, upd, aQ hH]
 rw [hu]
 refine ⟨_, rfl, ?_⟩
 obtain ⟨g1, g2⟩ := heap_set (o' := .map a' a'.size) hb
 exact hI.tE hH hp rfl (.map es') (by simp) (fun c hc => g2 c hc) rfl rfl rfl (fun _ => Nat.le_refl _) (fun hE => ⟨a', g1, hy _ _ (fun A v h => Rv.ext hE A v h)⟩)
theorem RvM.of {w' : World} {mu mu' : Nat -> Prop} (h : ∀ A v, Rv w mu Z A v -> Rv w' mu' Z A v) : ∀ (i : Nat) (es : List (Value × AV)) (l : List MapEntry), RvM w mu Z i es l -> RvM w' mu' Z i es l
 | _, [], _, hv => hv
 | i, (k, A) :: es, l, hv => by
  obtain ⟨e, l', h1, h2, h0, h3, h4⟩ := hv
  exact ⟨e, l', h1, h2, h0, h _ _ h3, RvM.of h (i + 1) es l' h4⟩
theorem stays {old new : Value} (h : Instr.sameBits 10000 old new = true) (w : World) : (Instr.keyThatStays old new).run P w = .ok new w := by simp [Instr.keyThatStays, h]
theorem pV (hI : Inv out B w Z H) {t : TypeId} {m k x : AV} {vm vk vx : Value} {r : bt} (hm : Rv w (aM out Z H) Z m vm) (hk : Rv w (aM out Z H) Z k vk) (hx : Rv w (aM out Z H) Z x vx) (h : gu P H t m k x = some r) :
  b7 P out B w Z H (do Instr.mapUpdate t vm vk vx; pure .skip) r := by
 unfold gu at h
 split at h
 · rename_i kt e b es k' hu hma hk0
   obtain ⟨hH, p, a, rfl, hp, hb, hr⟩ := kV hI hm hma
   obtain rfl : vk = k' := iu k vk k' hk hk0
   split at h
   · rename_i i A hk hf
     cases h
     obtain ⟨hck, hfs⟩ := kJ hk hr hf
     rcases hfs with ⟨e1, _⟩ | ⟨jx, en, A2, e1, e2, e3, e4, e5, e6, e7⟩
     · cases e1
     · cases e1
       obtain ⟨w', rfl, hE, hI'⟩ := sm hI (es' := es.set (0 + jx) (vk, x)) (a' := a.modify (0 + jx) fun e => { e with key := vk, val := vx }) hH hp hb (fun w' mu' hext => by
        rw [toList_modify]; exact RvM.set (hext _ _ hx) es a.toList 0 _ (RvM.of hext 0 es _ hr))
       have hk3 : (((a[0 + jx]?).map (·.key)).getD vk) = en.key := by rw [<- Array.getElem?_toList, Nat.zero_add, e3]; rfl
       refine ⟨.skip, undef, _, Z, ?_, .inr ⟨rfl, rfl⟩, hE, hI', trivial, fun _ _ => rfl⟩
       simp only [Instr.mapUpdate, Sem.run_bind, run_underlying hu, Result.andThen_ok, Go.MapKept.run_getObj_map hb, hck, e2, hk3, stays e7]
       simp [Go.MapKept.run_setObj_map _ hb]
   · rename_i hk hf
     cases h
     obtain ⟨hck, hfs⟩ := kJ hk hr hf
     rcases hfs with ⟨_, e2⟩ | ⟨jx, en, A2, e1, _⟩
     · have hl := RvM.len es a.toList 0 hr
       have hl : a.size = es.length := by simpa using hl
       obtain ⟨w', rfl, hE, hI'⟩ := sm hI (es' := es ++ [(vk, x)]) (a' := a.push { key := vk, val := vx, born := a.size }) hH hp hb (fun w' mu' hext => by
        have := RvM.snoc (k := vk) (hext _ _ hx) es a.toList 0 (RvM.of hext 0 es _ hr)
        rw [Nat.zero_add, <- hl] at this
        simpa using this)
       refine ⟨.skip, undef, _, Z, ?_, .inr ⟨rfl, rfl⟩, hE, hI', trivial, fun _ _ => rfl⟩
       simp only [Instr.mapUpdate, Sem.run_bind, run_underlying hu, Result.andThen_ok, Go.MapKept.run_getObj_map hb, hck, e2]
       simp [Go.MapKept.run_setObj_map _ hb]
     · cases e1
   · cases h
 · cases h
theorem vW {A : AV} {w' : World} {mu : Nat -> Prop} {u : Value} {i : Nat} (h : Rv w' mu Z A u) : Rv w' mu Z (.tup [A, .at (.int .i64 i)]) (.tuple #[u, goInt i]) := ⟨_, rfl, _, _, rfl, h, _, _, rfl, rfl, rfl⟩
theorem vJ (hI : Inv out B w Z H) {t : TypeId} {m k : AV} {vm vk : Value} {r : bt} (hm : Rv w (aM out Z H) Z m vm) (hk : Rv w (aM out Z H) Z k vk) (h : kM P H t m k = some r) :
  b7 P out B w Z H (do pure (.value (<- Instr.mapEntry t vm vk))) r := by
 unfold kM at h
 split at h
 · rename_i kt e b es k' hu hma hk0
   obtain ⟨hH, p, a, rfl, hp, hb, hr⟩ := kV hI hm hma
   obtain rfl : vk = k' := iu k vk k' hk hk0
   have hl := RvM.len es a.toList 0 hr
   have hl : a.size = es.length := by simpa using hl
   split at h
   · rename_i z i A hk hz hf
     cases h
     obtain ⟨hck, hfs⟩ := kJ hk hr hf
     rcases hfs with ⟨e1, _⟩ | ⟨jx, en, A2, e1, e2, e3, e4, e5, e6, e7⟩
     · cases e1
     · cases e1
       have hset : a.modify (0 + jx) (fun e => { e with key := vk }) = a.modify (0 + jx) fun e => { e with key := vk, val := en.val } := by
        apply Array.ext (by simp)
        intro i h1 h2
        rw [Array.getElem_modify, Array.getElem_modify]
        split
        · rename_i hi
          have : a[i]'(by simpa using h1) = en := by
           have : a[i]? = some en := by rw [<- hi, <- Array.getElem?_toList, Nat.zero_add]; exact e3
           exact (Array.getElem?_eq_some_iff.1 this).2
          rw [this]
        · rfl
       obtain ⟨w', rfl, hE, hI'⟩ := sm hI (es' := es.set (0 + jx) (vk, A)) (a' := a.modify (0 + jx) fun e => { e with key := vk, val := en.val }) hH hp hb (fun w' mu' hext => by
        rw [toList_modify]; exact RvM.set (hext _ _ e6) es a.toList 0 _ (RvM.of hext 0 es _ hr))
       have hj : a[0 + jx]? = some en := by rw [<- Array.getElem?_toList, Nat.zero_add, e3]
       refine ⟨.value (.tuple #[en.val, goInt ((0 + jx : Nat) : Int)]), _, _, Z, ?_, .inl rfl, hE, hI', vW (Rv.ext hE _ _ e6), fun _ _ => rfl⟩
       simp only [Instr.mapEntry, Sem.run_bind, run_underlying hu, Result.andThen_ok, Go.MapKept.run_getObj_map hb, hck, e2, hj, Option.map_some, Option.getD_some, stays e7, hset, e5]
       simp [Go.MapKept.run_setObj_map _ hb]
   · rename_i z hk hz hf
     cases h
     obtain ⟨hck, hfs⟩ := kJ hk hr hf
     obtain ⟨zv, hz1, hz2⟩ := tZ hz
     rcases hfs with ⟨_, e2⟩ | ⟨jx, en, A2, e1, _⟩
     · obtain ⟨w', rfl, hE, hI'⟩ := sm hI (es' := es ++ [(vk, z)]) (a' := a.push { key := vk, val := zv, born := a.size }) hH hp hb (fun w' mu' hext => by
        have := RvM.snoc (k := vk) (hz2 w' mu' Z) es a.toList 0 (RvM.of hext 0 es _ hr)
        rw [Nat.zero_add, <- hl] at this
        simpa using this)
       refine ⟨.value (.tuple #[zv, goInt ((es.length : Nat) : Int)]), _, _, Z, ?_, .inl rfl, hE, hI', vW (hz2 _ _ _), fun _ _ => rfl⟩
       simp only [Instr.mapEntry, Sem.run_bind, run_underlying hu, Result.andThen_ok, Go.MapKept.run_getObj_map hb, hck, e2, hz1]
       simp [Go.MapKept.run_setObj_map _ hb, hl]
     · cases e1
   · cases h
 · cases h
theorem vO {k : IntKind} {n : Int} : (asInt (.int k n)).run P w = .ok n w := by simp [asInt, asIntOf]
theorem RvM.born {mu : Nat -> Prop} : ∀ (es : List (Value × AV)) (l : List MapEntry) (j i : Nat), RvM w mu Z j es l -> i < es.length -> l.findIdx? (fun e => (e.born : Int) == ((j + i : Nat) : Int)) = some i
 | [], _, _, i, _, hi => by simp at hi
 | (k', A') :: es, _, j, i, h, hi => by
  obtain ⟨e, l', rfl, h2, h0, h3, h4⟩ := h
  rw [List.findIdx?_cons]
  cases i with
  | zero => simp [h0]
  | succ i =>
   have := RvM.born es l' (j + 1) i h4 (by simpa using hi)
   rw [show j + 1 + i = j + (i + 1) by omega] at this
   rw [this]
   have : ((e.born : Int) == ((j + (i + 1) : Nat) : Int)) = false := by rw [h0]; simp; omega
   rw [this]; rfl
theorem rL (hI : Inv out B w Z H) {t : TypeId} {m s x : AV} {vm vs vx : Value} {r : bt} (hm : Rv w (aM out Z H) Z m vm) (hs : Rv w (aM out Z H) Z s vs) (hx : Rv w (aM out Z H) Z x vx) (h : kf H m s x = some r) :
  b7 P out B w Z H (do Instr.entryStore t vm vs vx; pure .skip) r := by
 unfold kf at h
 split at h
 · rename_i b es i hma hi
   obtain ⟨hH, p, a, rfl, hp, hb, hr⟩ := kV hI hm hma
   split at h
   · rename_i k A h0 hg
     cases h
     have h0 : 0 <= i := by simpa using h0
     obtain ⟨sk, rfl⟩ := iL hs hi
     obtain ⟨n, rfl⟩ : ∃ n : Nat, i = n := ⟨i.toNat, by omega⟩
     rw [Int.toNat_natCast] at hg ⊢
     obtain ⟨en, g1, g2, g3, g4⟩ := RvM.get es a.toList 0 n k A hr hg
     have hlt : n < es.length := (List.getElem?_eq_some_iff.1 hg).1
     have hb2 := RvM.born es a.toList 0 n hr hlt
     have hb3 : a.findIdx? (fun e => (e.born : Int) == (n : Int)) = some n := by
      have e : a = a.toList.toArray := rfl
      rw [e, List.findIdx?_toArray]; simpa using hb2
     have hset : a.modify n (fun e => { e with val := vx }) = a.modify n fun e => { e with key := k, val := vx } := by
      apply Array.ext (by simp)
      intro i h1 h2
      rw [Array.getElem_modify, Array.getElem_modify]
      split
      · rename_i hi
        have : a[i]'(by simpa using h1) = en := by
         have : a[i]? = some en := by rw [<- hi, <- Array.getElem?_toList]; exact g1
         exact (Array.getElem?_eq_some_iff.1 this).2
        rw [this, <- g2]
      · rfl
     obtain ⟨w', rfl, hE, hI'⟩ := sm hI (es' := es.set n (k, x)) (a' := a.modify n fun e => { e with key := k, val := vx }) hH hp hb (fun w' mu' hext => by
      rw [toList_modify]; exact RvM.set (hext _ _ hx) es a.toList 0 _ (RvM.of hext 0 es _ hr))
     refine ⟨.skip, undef, _, Z, ?_, .inr ⟨rfl, rfl⟩, hE, hI', trivial, fun _ _ => rfl⟩
     simp only [Instr.entryStore, Sem.run_bind, Go.MapKept.run_getObj_map hb, Result.andThen_ok, vO, hb3, hset]
     simp [Go.MapKept.run_setObj_map _ hb]
   · cases h
 · cases h
theorem gI (hI : Inv out B w Z H) {n : Nat} (hn : n <= H.length) (p : Option PB) (x : Blk) : ∀ j, (∀ b, (j, b) ∉ [(n, x)]) -> (upd Z n p)[j]? = Z[j]? := by
 intro j hj
 rw [fH (by have := hI.len; omega), if_neg]
 rintro rfl
 exact hj x (by simp)
theorem ub (hI : Inv out B w Z H) {nid : Nat} (hn : nid <= H.length) (hf : ∀ q, Z[nid]? ≠ some (some q)) {t : TypeId} {r : Option AV} {vr : Option Value} {x : bt} (hr : match r, vr with | none, none => True | some r, some v => Rv w (aM out Z H) Z r v | _, _ => False) (h : nQ P nid t r = some x) :
  b7 P out B w Z H (do pure (.value (<- Instr.makeMap t vr))) x := by
 have key : (Instr.makeMap t vr).run P w = .ok (.map (some w.heap.size)) (w.alloc (.map #[] 0)) /\ x = .eff (.mp nid) [(nid, .map [])] := by
  unfold nQ at h
  cases r with
  | none =>
   cases vr with
   | none => cases h; exact ⟨by simp [Instr.makeMap], rfl⟩
   | some _ => exact hr.elim
  | some r =>
   cases vr with
   | none => exact hr.elim
   | some v =>
    simp only at h hr
    split at h
    · rename_i q kt e hk hu
      cases h
      have := qd hr hk
      subst this
      exact ⟨by simp [Instr.makeMap, run_underlying hu, asInt, asIntOf], rfl⟩
    · cases h
 obtain ⟨hrun, rfl⟩ := key
 have hE := qE hI (.map #[] 0) (.map []) ⟨w.heap.size, 0, 0⟩ rfl hn hf
 have hI' := hI.alloc (.map #[] 0) (.map []) ⟨w.heap.size, 0, 0⟩ rfl hn hf ⟨#[], by show (w.heap.push _)[w.heap.size]? = _; simp, rfl⟩
 refine ⟨_, .map (some w.heap.size), _, _, by simp [hrun], .inl rfl, hE, hI', ⟨_, jg hI hn _, rfl⟩, gI hI hn _ _⟩
theorem DB {mu : Nat -> Prop} (k : Value) : Rv w mu Z (EH k) k := by
 cases k <;> first | exact ⟨_, rfl, eY _⟩ | exact rfl
theorem vS (hI : Inv out B w Z H) {nid : Nat} (hn : nid <= H.length) (hf : ∀ q, Z[nid]? ≠ some (some q)) {t : TypeId} {m : AV} {vm : Value} {x : bt} (hm : Rv w (aM out Z H) Z m vm) (h : l5 P H nid t m = some x) :
  b7 P out B w Z H (do pure (.value (<- Instr.range t vm))) x := by
 unfold l5 at h
 split at h
 · rename_i kt e b es hu hma
   cases h
   obtain ⟨hH, p, a, rfl, hp, hb, hr⟩ := kV hI hm hma
   have hl : a.size = es.length := by have := RvM.len es a.toList 0 hr; simpa using this
   have hne : b ≠ nid := fun e => hf p (by rw [<- e]; exact hp)
   have hlt : p.blk < w.heap.size := (hI.base b _ p hH hp rfl).2
   have hE := qE hI (.mapIter (some p.blk) a.size #[] a.size) (.iter b es.length []) ⟨w.heap.size, 0, 0⟩ rfl hn hf
   have hI' := hI.alloc (.mapIter (some p.blk) a.size #[] a.size) (.iter b es.length []) ⟨w.heap.size, 0, 0⟩ rfl hn hf ⟨rfl, p, by rw [fH (by have := hI.len; omega), if_neg hne]; exact hp, by show (w.heap.push _)[w.heap.size]? = _; rw [<- hl]; simp⟩
   refine ⟨_, .pointer (some ⟨w.heap.size, 0, none⟩), _, _, ?_, .inl rfl, hE, hI', ⟨_, jg hI hn _, rfl⟩, gI hI hn _ _⟩
   simp only [Instr.range, Sem.run_bind, run_underlying hu, Result.andThen_ok, Go.MapKept.run_getObj_map hb, Sem.run_pure]
   rfl
 · cases h
theorem sL (hI : Inv out B w Z H) {x : AV} {v : Value} {r : bt} (hx : Rv w (aM out Z H) Z x v) (h : gD H x = some r) : b7 P out B w Z H (do pure (.value (<- Instr.entry v))) r := by
 unfold gD at h
 split at h
 · rename_i m n seen hit
   unfold p6 at hit
   split at hit
   · rename_i j
     split at hit
     · rename_i m' n' seen' hj
       cases hit
       obtain ⟨p, hp, rfl⟩ := hx
       obtain ⟨ho, q, hq, hh⟩ := hI.ok j _ p hj hp
       split at h
       · rename_i es hes
         obtain ⟨a, ha, hr⟩ := hI.ok m _ q hes hq
         have hl : a.size = es.length := by have := RvM.len es a.toList 0 hr; simpa using this
         split at h
         · rename_i i hn hlast
           split at h
           · rename_i k A hi
             cases h
             have hn : es.length = n := dcT hn
             obtain ⟨en, g1, g2, g3, g4⟩ := RvM.get es a.toList 0 i k A hr hi
             have hback : seen.toArray.back? = some i := by rw [<- hlast]; simp [Array.back?, List.getLast?_eq_getElem?]
             have hfind : a.find? (fun e => e.born == i) = some en := by
              have hlt : i < es.length := (List.getElem?_eq_some_iff.1 hi).1
              have hb2 := RvM.born es a.toList 0 i hr hlt
              rw [<- Array.find?_toList]
              have hb3 : a.toList.findIdx? (fun e => e.born == i) = some i := by
               rw [<- hb2]; congr 1; funext e; rw [Nat.zero_add, Bool.eq_iff_iff, beq_iff_eq, beq_iff_eq]; omega
              rw [List.find?_eq_some_iff_getElem]
              have h3 := List.findIdx?_eq_some_iff_getElem.1 hb3
              obtain ⟨h4, h5, h6⟩ := h3
              have he : a.toList[i] = en := (List.getElem?_eq_some_iff.1 g1).2
              refine ⟨by rw [<- he]; exact h5, i, h4, he, fun j hj => by simpa using h6 j hj⟩
             have hrun : (Instr.entry (.pointer (some ⟨p.blk, p.off + 0, none⟩))).run P w = .ok (.tuple #[en.key, en.val]) w := by
              rw [Nat.add_zero, ho]
              simp only [Instr.entry, getObj, Sem.run_bind, Sem.run, hh, ha, Result.andThen, hback, hl, hn, bne_self_eq_false, Bool.false_eq_true, if_false, hfind]
              rfl
             exact b7.value hrun ⟨_, rfl, _, _, rfl, by rw [g2]; exact DB k, _, _, rfl, g4, rfl⟩
           · cases h
         · cases h
       · cases h
     · cases hit
   · cases hit
 · cases h
end
end Go.Eng


namespace Go.Eng
open Go Go.RowKit
variable [Dr]
section
variable {P : Program} {out : Nat -> Prop} {B : Nat -> Prop} {w : World} {Z : List (Option PB)} {H : List Blk}
theorem Inv.same {w' : World} (hI : Inv out B w Z H) (hh : w'.heap = w.heap) (ho : w'.os = w.os) (ht : w'.tape = w.tape) (hu : w'.output = w.output) (hd : Dr.d = true -> w.drawn <= w'.drawn) :
  Ext B w w' (aM out Z H) (aM out Z H) Z Z /\ Inv out B w' Z H := by
 have hE : Ext B w w' (aM out Z H) (aM out Z H) Z Z := ⟨fun _ _ => by rw [hh], by rw [hh]; exact Nat.le_refl _, fun b _ h => ⟨by rw [hh], h⟩, fun _ _ h => h, ho, ht, hu, hd⟩
 exact ⟨hE, hI.len, by rw [hh]; exact hI.bound, hI.out_lt, by rw [hh]; exact hI.base, fun i x p h1 h2 => gy.ext hE (fun _ => by rw [hh]) (hI.ok i x p h1 h2), hI.sep⟩
theorem yT (hI : Inv out B w Z H) {nid : Nat} (hn : nid <= H.length) (hf : ∀ q, Z[nid]? ≠ some (some q)) {t : TypeId} {z : List AV} (hz : j1 P t = some z) (h1 : z.all fu = true) :
  b7 P out B w Z H (do pure (.value (<- Instr.alloc t true (.tuple #[])))) (.eff (.hp nid 0) [(nid, .own z)]) := by
 obtain ⟨zv, _, hi, hzv, hrun, rfl⟩ := pS hz w
 obtain ⟨hE, hI'⟩ := lf hI hn hf (zv.cells.toList.map .at) zv.cells t (eY _) (all_zero h1)
 refine ⟨_, .pointer (some ⟨w.heap.size, 0, none⟩), _, _, by simp [Instr.alloc, hrun, newVar, newRow], .inl rfl, hE, hI', ⟨_, jg hI hn _, rfl⟩, gI hI hn _ _⟩
theorem Bv (hI : Inv out B w Z H) {nid : Nat} (hn : nid <= H.length) (hf : ∀ q, Z[nid]? ≠ some (some q)) {t : TypeId} {x : AV} {v : Value} (hx : Rv w (aM out Z H) Z x v) (h1 : (cellsOf x).all fu = true) :
  b7 P out B w Z H (do pure (.value (<- Instr.box t v))) (.eff (.hp nid 0) [(nid, .own (cellsOf x))]) := by
 obtain ⟨g1, g2⟩ := nq hx h1
 obtain ⟨hE, hI'⟩ := lf hI hn hf (cellsOf x) v.cells t g1 g2
 exact ⟨_, .pointer (some ⟨w.heap.size, 0, none⟩), _, _, by simp [Instr.box, newVar, newRow], .inl rfl, hE, hI', ⟨_, jg hI hn _, rfl⟩, gI hI hn _ _⟩
def EJ (w : World) (mu : Nat -> Prop) (Z : List (Option PB)) (ρ : Operand -> AV) (ρc : Operand -> Value) (l : List (Nat × Operand)) : Prop :=
 RvL w mu Z ((l.map fun p => (p.1, ρ p.2)).map (·.2)) ((l.map fun p => (p.1, ρc p.2)).map (·.2))
theorem qA {ρ : Operand -> AV} {ρc : Operand -> Value} {mu : Nat -> Prop} (hρ : ∀ x, Rv w mu Z (ρ x) (ρc x)) : ∀ l : List (Nat × Operand), EJ w mu Z ρ ρc l
 | [] => rfl
 | (_, x) :: l => ⟨_, _, rfl, hρ x, qA hρ l⟩
theorem sF {ρ : Operand -> AV} {ρc : Operand -> Value} {mu : Nat -> Prop} (hρ : ∀ x, Rv w mu Z (ρ x) (ρc x)) : ∀ l : List Operand, RvL w mu Z (l.map ρ) (l.map ρc)
 | [] => rfl
 | x :: l => ⟨_, _, rfl, hρ x, sF hρ l⟩
theorem qc {t : TypeId} {z : List AV} (h : j1 P t = some z) : ∃ zv : Value, (∀ w, (zeroValue t).run P w = .ok zv w) /\ z = zv.cells.toList.map .at := by
 unfold j1 at h
 split at h
 · rename_i i hi
   split at h
   · rename_i zv hz; cases h; exact ⟨zv, fun w => by simp [zeroValue, typeInfo, hi, hz], rfl⟩
   · cases h
 · cases h
theorem tp (hI : Inv out B w Z H) {nid : Nat} (hnid : nid <= H.length) (hf0 : ∀ q, Z[nid]? ≠ some (some q)) {ρ : Operand -> AV} {ρc : Operand -> Value} (hρ : ∀ x, Rv w (aM out Z H) Z (ρ x) (ρc x)) {t e : TypeId} {len n : Nat} {z cs : List AV} {parts : Array (Nat × Operand)}
  (hu : P.underlying t = some (.slice e)) (hn : eW P e = some n) (hz : j1 P e = some z) (h1 : len * n <= 16777216) (h2 : z.length = n) (h3 : z.all fu = true)
  (hf : qS (fun i => some (i * n, n)) (c8 z len) (parts.toList.map fun p => (p.1, ρ p.2)) = some cs) :
  b7 P out B w Z H (do pure (.value (<- Instr.buildSlice t len (parts.map fun (i, x) => (i, ρc x))))) (.eff (.hs nid 0 len n) [(nid, .own cs)]) := by
 obtain ⟨zv, hrun, rfl⟩ := qc hz
 have hzs : zv.cells.size = n := by simpa using h2
 have hz1 := all_zero h3
 have hcells : ∀ z0 : Array Value, (if len * n = 0 then z0 = #[] else z0 = zv.cells) -> ((Array.range (len * n)).map (z0[· % z0.size]!)).toList = (List.replicate len zv.cells.toList).flatten := by
  intro z0 h0
  by_cases hl : len * n = 0
  · rw [if_pos hl] at h0; subst h0
    rw [hl]
    rcases Nat.mul_eq_zero.1 hl with e0 | e0
    · simp [e0]
    · have : zv.cells = #[] := by rw [<- Array.size_eq_zero_iff]; omega
      simp [this]
  · rw [if_neg hl] at h0; subst h0
    have hpos : 0 < zv.cells.size := by
     rw [hzs]; exact Nat.pos_of_ne_zero fun e0 => hl (by rw [e0]; simp)
    have := j6 zv.cells len hpos
    rw [hzs] at this
    simpa [madeCells] using this
 have hparts : (parts.map fun p : Nat × Operand => (p.1, ρc p.2)).toList = parts.toList.map fun p => (p.1, ρc p.2) := by simp
 have fin : ∀ z0 : Array Value, ((Array.range (len * n)).map (z0[· % z0.size]!)).toList = (List.replicate len zv.cells.toList).flatten ->
   ∃ rv, Instr.fill (fun i => some (i * n, n)) ((Array.range (len * n)).map (z0[· % z0.size]!)) (parts.map fun p : Nat × Operand => (p.1, ρc p.2)).toList = some rv /\ RvL w (aM out Z H) Z cs rv.toList /\ (∀ v ∈ rv.toList, v.oneCell' = true) /\ rv.size = len * n := by
  intro z0 h0
  obtain ⟨rv, r1, r2, r3, r4⟩ := mT (w := w) (Z := Z) (mu := aM out Z H) (place := fun i => some (i * n, n)) (parts.toList.map fun p => (p.1, ρ p.2)) (parts.toList.map fun p => (p.1, ρc p.2)) (c8 (zv.cells.toList.map .at) len)
   ((Array.range (len * n)).map (z0[· % z0.size]!)) cs (by simp) (qA hρ _) (by rw [h0]; exact qo _ _) (by rw [h0]; exact jA hz1 _) hf
  exact ⟨rv, by rw [hparts]; exact r1, r2, r4, by rw [r3]; simp⟩
 have hle : ¬ 16777216 < len * n := by omega
 by_cases hl : len * n = 0
 · obtain ⟨rv, r1, r2, r3, r4⟩ := fin #[] (hcells #[] (by rw [if_pos hl]))
   obtain ⟨hE, hI'⟩ := lf hI hnid hf0 cs rv e r2 r3
   refine ⟨_, .slice (some ⟨w.heap.size, 0, none⟩) len len, _, _, ?_, .inl rfl, hE, hI', .inr ⟨_, _, _, jg hI hnid _, rfl, Nat.le_refl _, rfl, fun _ => ⟨rfl, ?_⟩⟩, gI hI hnid _ _⟩
   · have hle' : ¬ len * n > 2 ^ 24 := by simpa using hle
     simp only [Instr.buildSlice, Sem.run_bind, run_underlying hu, Result.andThen_ok, bB hn, Sem.run_ite, if_neg hle', if_pos hl, Sem.run_pure]
     rw [r1]
     rfl
   · simp [r4]
 · obtain ⟨rv, r1, r2, r3, r4⟩ := fin zv.cells (hcells zv.cells (by rw [if_neg hl]))
   obtain ⟨hE, hI'⟩ := lf hI hnid hf0 cs rv e r2 r3
   refine ⟨_, .slice (some ⟨w.heap.size, 0, none⟩) len len, _, _, ?_, .inl rfl, hE, hI', .inr ⟨_, _, _, jg hI hnid _, rfl, Nat.le_refl _, rfl, fun _ => ⟨rfl, ?_⟩⟩, gI hI hnid _ _⟩
   · have hle' : ¬ len * n > 2 ^ 24 := by simpa using hle
     simp only [Instr.buildSlice, Sem.run_bind, run_underlying hu, Result.andThen_ok, bB hn, Sem.run_ite, if_neg hle', if_neg hl, hrun, Sem.run_pure]
     rw [r1]
     rfl
   · simp [r4]
theorem ry {mu : Nat -> Prop} {ρ : Operand -> AV} {ρc : Operand -> Value} (hρ : ∀ x, Rv w mu Z (ρ x) (ρc x)) {t : TypeId} {fs : Array Field} {z cs : List AV} {pl : List (Nat × Nat)} {parts : Array (Nat × Operand)}
  (hu : P.underlying t = some (.struct fs)) (hz : j1 P t = some z) (hp : ql P fs.toList = some pl) (h1 : z.all fu = true) (hf : qS (fun i => pl[i]?) z (parts.toList.map fun p => (p.1, ρ p.2)) = some cs) :
  ∃ u, (Instr.build t (parts.map fun (i, x) => (i, ρc x))).run P w = .ok u w /\ Rv w mu Z (.agg cs) u := by
 obtain ⟨zv, hrun, rfl⟩ := qc hz
 obtain ⟨rv, r1, r2, r3, r4⟩ := mT (w := w) (Z := Z) (mu := mu) (place := fun i => pl[i]?) (parts.toList.map fun p : Nat × Operand => (p.1, ρ p.2)) (parts.toList.map fun p : Nat × Operand => (p.1, ρc p.2)) (zv.cells.toList.map .at) zv.cells cs (by simp) (qA hρ parts.toList) (eY _) (all_zero h1) hf
 have hparts : (parts.map fun p : Nat × Operand => (p.1, ρc p.2)).toList = parts.toList.map fun p => (p.1, ρc p.2) := by simp
 refine ⟨.agg rv, ?_, rv, rfl, r2⟩
 have hpl : (fs.mapM (m := Sem) fun f => do pure (f.offset, <- sizeOf f.type)).run P w = .ok pl.toArray w := by
  rw [Array.mapM_eq_mapM_toList]
  have := qV (P := P) w fs.toList pl hp
  simp only [Sem.run_map, this, Result.andThen_ok]
 simp only [Instr.build, Sem.run_bind, hrun, Result.andThen_ok, run_underlying hu, hpl, hparts]
 have e : (fun x : Nat => pl.toArray[x]?) = (fun i : Nat => pl[i]?) := by funext i; simp
 simp only [e, r1]
 rfl
theorem sz {mu : Nat -> Prop} {ρ : Operand -> AV} {ρc : Operand -> Value} (hρ : ∀ x, Rv w mu Z (ρ x) (ρc x)) {t e : TypeId} {len n : Nat} {z cs : List AV} {parts : Array (Nat × Operand)}
  (hu : P.underlying t = some (.array len e)) (hz : j1 P t = some z) (hn : eW P e = some n) (h1 : z.all fu = true) (hf : qS (fun i => some (i * n, n)) z (parts.toList.map fun p => (p.1, ρ p.2)) = some cs) :
  ∃ u, (Instr.build t (parts.map fun (i, x) => (i, ρc x))).run P w = .ok u w /\ Rv w mu Z (.agg cs) u := by
 obtain ⟨zv, hrun, rfl⟩ := qc hz
 obtain ⟨rv, r1, r2, r3, r4⟩ := mT (w := w) (Z := Z) (mu := mu) (place := fun i => some (i * n, n)) (parts.toList.map fun p : Nat × Operand => (p.1, ρ p.2)) (parts.toList.map fun p : Nat × Operand => (p.1, ρc p.2)) (zv.cells.toList.map .at) zv.cells cs (by simp) (qA hρ parts.toList) (eY _) (all_zero h1) hf
 have hparts : (parts.map fun p : Nat × Operand => (p.1, ρc p.2)).toList = parts.toList.map fun p => (p.1, ρc p.2) := by simp
 refine ⟨.agg rv, ?_, rv, rfl, r2⟩
 simp only [Instr.build, Sem.run_bind, hrun, Result.andThen_ok, run_underlying hu, bB hn, hparts]
 rw [r1]
 rfl
theorem ui (hI : Inv out B w Z H) {nid : Nat} (hnid : nid <= H.length) (hf0 : ∀ q, Z[nid]? ≠ some (some q)) {t e : TypeId} {kl kc : IntKind} {l c : Int} {n by_ : Nat} {z : List AV} (hu : P.underlying t = some (.slice e)) (hn : eW P e = some n) (hb : oY P e = some by_) (hz : j1 P e = some z)
  (h0 : 0 <= l) (hlc : l <= c) (hby : (by_ : Int) * c <= 281474976710656) (h63 : c <= 9223372036854775807) (hzl : z.length = n) (hn0 : 0 < n) (h3 : z.all fu = true) :
  b7 P out B w Z H (do pure (.value (<- Instr.makeSlice t (.int kl l) (.int kc c)))) (.eff (.hs nid 0 l.toNat n) [(nid, .own (c8 z c.toNat))]) := by
 obtain ⟨zv, i, hi, hzv, hrun, rfl⟩ := pS hz w
 have hsz : i.size = n := by simpa [eW, hi] using hn
 have hbs : i.bytes = by_ := by simpa [oY, hi] using hb
 have hzs : zv.cells.size = n := by simpa using hzl
 have hm := run_make (P := P) w t e i zv hu hi hzv kl kc l c h0 hlc (by rw [hbs]; exact hby) h63
 have he : (madeCells zv.cells (c.toNat * i.size)).toList = (List.replicate c.toNat zv.cells.toList).flatten := by
  rw [hsz, <- hzs]; exact j6 zv.cells c.toNat (by omega)
 obtain ⟨hE, hI'⟩ := lf hI hnid hf0 (c8 (zv.cells.toList.map .at) c.toNat) (madeCells zv.cells (c.toNat * i.size)) e (by rw [he]; exact qo _ _) (by rw [he]; exact jA (all_zero h3) _)
 exact ⟨_, .slice (some ⟨w.heap.size, 0, none⟩) l.toNat c.toNat, _, _, by simp [hm], .inl rfl, hE, hI', .inr ⟨_, _, _, jg hI hnid _, rfl, by omega, rfl, fun _ => ⟨rfl, by simp [size_madeCells, hsz]⟩⟩, gI hI hnid _ _⟩
end
section
variable {P : Program} {out : Nat -> Prop} {B : Nat -> Prop} {w : World} {Z : List (Option PB)} {H : List Blk}
theorem nH (hI : Inv out B w Z H) {n : Nat} {x : AV} {v : Value} {cs : List AV} {m : Nat} (hx : Rv w (aM out Z H) Z x v) (h : iU H n x = some (cs, m)) :
  ∃ a cap, v = .slice a m cap /\ (a = none -> m = 0) /\ m <= cap /\ ∃ vs : List Value, vs.length = m * n /\ RvL w (aM out Z H) Z cs vs /\ (∀ u ∈ vs, u.oneCell' = true) /\ (∀ b, a = some b -> ∀ j u, vs[j]? = some u -> w.cell? (b.add j) = some u) := by
 unfold iU at h
 split at h
 · cases h; cases hx; exact ⟨none, 0, rfl, fun _ => rfl, Nat.le_refl _, [], by simp, rfl, by simp, fun b hb => by cases hb⟩
 · rename_i nl c len
   split at h
   · rename_i hl
     simp only [decide_eq_true_eq] at hl
     cases h
     rcases hx with ⟨_, rfl, rfl, rfl⟩ | ⟨b, o, cap, rfl, h2, h3, h4⟩ | ⟨rfl, rfl, a, cap, rfl⟩
     rotate_left 2
     · exact ⟨some a, cap, rfl, fun _ => rfl, Nat.zero_le _, [], by simp, rfl, by simp, fun b hb j u hj => by simp at hj⟩
     · exact ⟨none, 0, rfl, fun _ => rfl, Nat.le_refl _, [], by simp, rfl, by simp, fun b hb => by cases hb⟩
     · obtain ⟨vs, g1, g2, g3, g4⟩ := qz h4.lift (Nat.le_refl _)
       rw [List.take_length] at g2
       exact ⟨_, cap, rfl, (fun e => by cases e), h2, vs, by rw [g1]; exact hl, g2, g3, fun b' hb' => by cases hb'; exact g4⟩
   · cases h
 · rename_i i off len es
   rcases hx with ⟨rfl, rfl⟩ | ⟨p, a, cap, h1, rfl, h2, hsp, h3⟩
   · have : cs = [] /\ m = 0 := by
      split at h
      · split at h
        · cases h; simp
        · cases h
      · split at h
        · cases h; simp
        · cases h
      · cases h
     obtain ⟨rfl, rfl⟩ := this
     exact ⟨none, 0, rfl, fun _ => rfl, Nat.le_refl _, [], by simp, rfl, by simp, fun b hb => by cases hb⟩
   have key : ∀ c : List AV, (H[i]? = some (.own c) \/ H[i]? = some (.fix c)) -> off + len * n <= c.length -> cs = (c.drop off).take (len * n) -> m = len ->
     ∃ a' cap', Value.slice (some a) len cap = .slice a' m cap' /\ (a' = none -> m = 0) /\ m <= cap' /\ ∃ vs : List Value, vs.length = m * n /\ RvL w (aM out Z H) Z cs vs /\ (∀ u ∈ vs, u.oneCell' = true) /\ (∀ b, a' = some b -> ∀ j u, vs[j]? = some u -> w.cell? (b.add j) = some u) := by
    intro c hc hle e1 e2
    subst e1; subst e2
    obtain ⟨vs, g1, g2, g3, g4⟩ := qz (n := m * n) (RvC.drop off c _ _ (iq hI hc h1)) (by simp; omega)
    refine ⟨_, cap, rfl, (fun e => by cases e), h2, vs, g1, g2, g3, fun b hb => ?_⟩
    cases hb
    intro j u hj
    by_cases hcap : 0 < cap
    · rw [(h3 hcap).1]; exact g4 j u hj
    · have : vs.length = 0 := by rw [g1]; have : m = 0 := by omega
                                 simp [this]
      rw [List.length_eq_zero_iff] at this
      subst this; simp at hj
   split at h
   · rename_i c hc
     split at h
     · rename_i hle; cases h; exact key c (.inl hc) (by simpa using hle) rfl rfl
     · cases h
   · rename_i c hc
     split at h
     · rename_i hle; cases h; exact key c (.inr hc) (by simpa using hle) rfl rfl
     · cases h
   · cases h
 · cases h
theorem jG {n m cap : Nat} {a : Option Addr} {vs : List Value} (w : World) (hl : vs.length = m * n) (h0 : a = none -> m = 0) (h : ∀ b, a = some b -> ∀ j u, vs[j]? = some u -> w.cell? (b.add j) = some u) :
  (Builtin.firstCells n m (.slice a m cap)).run P w = .ok vs.toArray w := by
 cases a with
 | none =>
  have : vs = [] := by rw [<- List.length_eq_zero_iff, hl, h0 rfl]; simp
  subst this; rfl
 | some b => exact run_firstCells_some w n m b m cap vs hl (h b rfl)
theorem xc (hI : Inv out B w Z H) {nid : Nat} (hnid : nid <= H.length) (hf0 : ∀ q, Z[nid]? ≠ some (some q)) {t t' e e' ty : TypeId} {n by_ : Nat} {z : List AV} {s x : AV} {vs vx : Value} {r : bt} (ht : P.underlying t = some (.slice e)) (ht' : P.underlying t' = some (.slice e'))
  (hn : eW P e = some n) (hb : oY P e = some by_) (hz : j1 P e = some z) (hzl : z.length = n) (hs : Rv w (aM out Z H) Z s vs) (hx : Rv w (aM out Z H) Z x vx) (h : j8 H nid n by_ s x = some r) :
  b7 P out B w Z H (do pure (.value (<- Builtin.append_ #[t, t'] ty #[vs, vx]))) r := by
 obtain ⟨zv, i, hi, hzv, hrun, rfl⟩ := pS hz w
 have hsz : i.size = n := by simpa [eW, hi] using hn
 have hbs : i.bytes = by_ := by simpa [oY, hi] using hb
 unfold j8 at h
 split at h
 · cases h
 · rename_i new m hc
   obtain ⟨a, cap, rfl, h0, h1, us, hul, husR, hus1, hcell⟩ := nH hI hx hc
   have hfc := jG (P := P) (cap := cap) w hul h0 hcell
   have hfd := jG (P := P) (cap := cap) w.drew hul h0 (by simpa using hcell)
   have nothing : m = 0 -> us = [] /\ new = [] := by
    intro hm
    have hnil : us = [] := by rw [<- List.length_eq_zero_iff, hul, hm]; simp
    subst hnil
    have := RvL.length _ _ husR
    exact ⟨rfl, by rw [<- List.length_eq_zero_iff]; simpa using this.symm⟩
   have fin : m = 0 -> ∀ (b : Option Addr) (l c : Nat), l <= c -> (Builtin.append_ #[t, t'] ty #[.slice b l c, .slice a m cap]).run P w = .ok (.slice b l c) w := by
    intro hm b l c hlc
    obtain ⟨rfl, _⟩ := nothing hm
    subst hm
    cases b with
    | none => simp [Builtin.append_, run_underlying ht, run_underlying ht', bB hn, Builtin.lenOf, hlc, hfc]
    | some b => simp [Builtin.append_, run_underlying ht, run_underlying ht', bB hn, Builtin.lenOf, hlc, hfc, storeCells]
   by_cases hm0 : m = 0
   ·
    obtain ⟨hus0, hnew0⟩ := nothing hm0
    have fin0 := fin hm0
    clear hfc hfd nothing fin hul husR hus1 hcell
    split at h
    · split at h
      · cases h; cases hs
        obtain ⟨hE, hI'⟩ := hI.uj hnid hf0 (.own new)
        refine ⟨_, .slice none 0 0, w, upd Z nid none, by simp only [Sem.run_bind, fin0 none 0 0 (Nat.le_refl _), Result.andThen_ok]; rfl, .inl rfl, hE, hI', .inl ⟨hm0, rfl⟩, gI hI hnid _ _⟩
      · cases h
    · split at h
      · cases h
        have hs' := hs
        rcases hs with ⟨rfl, rfl, rfl, rfl⟩ | ⟨b, o, c, rfl, g2, _⟩ | ⟨rfl, rfl, a, c, rfl⟩
        · exact b7.value (fin0 _ _ _ (Nat.le_refl _)) hs'
        · exact b7.value (fin0 _ _ _ g2) hs'
        · exact b7.value (fin0 _ _ _ (Nat.zero_le _)) hs'
      · cases h
    · rename_i i' off len es
      split at h
      · rename_i cs hH
        split at h
        · rename_i hcond
          simp only [Bool.and_eq_true, decide_eq_true_eq] at hcond
          obtain ⟨⟨⟨⟨rfl, k0⟩, k1⟩, k2⟩, k3⟩ := hcond
          cases h
          subst hm0; subst hnew0
          rcases hs with ⟨rfl, rfl⟩ | ⟨p, b, scap, h1', rfl, h2, hsp, h3⟩
          · obtain ⟨hE0, hI0⟩ := hI.kill i' (w' := w) rfl rfl rfl rfl (fun _ => Nat.le_refl _)
            obtain ⟨hE, hI'⟩ := hI0.uj (by simpa using hnid) hf0 (.own ((cs.drop off).take (0 * es) ++ []))
            have hupd : aP H [(i', .dead), (nid, .own ((cs.drop off).take (0 * es) ++ []))] = upd (H.set i' .dead) nid (.own ((cs.drop off).take (0 * es) ++ [])) := by simp [aP, upd, aQ hH]
            rw [<- hupd] at hE hI'
            exact ⟨_, .slice none 0 0, w, upd Z nid none, by simp only [Sem.run_bind, fin0 none 0 0 (Nat.le_refl _), Result.andThen_ok]; rfl, .inl rfl, hE0.trans hE, hI', .inl ⟨rfl, rfl⟩, fun j hj => gI hI hnid none (.own ((cs.drop off).take (0 * es) ++ [])) j (fun b hb => hj b (by simp at hb ⊢; exact .inr hb))⟩
          · obtain ⟨⟨c, te, hheap, hcs⟩, hC⟩ := hI.ok i' _ p hH h1'
            obtain ⟨hE, hI'⟩ := hI.grow hH h1' rfl (.own ((cs.drop off).take (len * es) ++ [])) ⟨p.blk, p.off + off, p.size⟩ rfl hnid hf0 (w' := w) rfl (fun _ _ => rfl) rfl rfl rfl (fun _ => Nat.le_refl _) (fun hE => by
             refine ⟨⟨c, te, hheap, hcs⟩, ?_⟩
             have hcc := RvC.ext hE ((cs.drop off).take (len * es)) _ _ rfl (RvC.take (len * es) _ _ _ (RvC.drop off cs _ _ hC))
             simpa using hcc)
            have hupd : aP H [(i', .dead), (nid, .own ((cs.drop off).take (len * es) ++ []))] = upd (H.set i' .dead) nid (.own ((cs.drop off).take (len * es) ++ [])) := by simp [aP, upd, aQ hH]
            rw [<- hupd] at hE hI'
            refine ⟨_, .slice (some b) len scap, w, _, by simp only [Sem.run_bind, fin0 (some b) len scap h2, Result.andThen_ok]; rfl, .inl rfl, hE, hI', .inr ⟨⟨p.blk, p.off + off, p.size⟩, b, scap, jg hI hnid _, rfl, by omega, hsp, fun hc0 => ?_⟩, fun j hj => gI hI hnid _ (.own ((cs.drop off).take (len * es) ++ [])) j (fun b hb => hj b (by simp at hb ⊢; exact .inr hb))⟩
            obtain ⟨e1, e2⟩ := h3 hc0
            exact ⟨by rw [e1, Nat.add_zero], by simpa using e2⟩
        · cases h
      · cases h
    · cases h
   obtain ⟨m, rfl⟩ : ∃ m', m = m' + 1 := ⟨m - 1, by omega⟩
   clear fin nothing hm0
   change us.length = (m + 1) * n at hul
   split at h
   ·
    split at h
    · rename_i hcond
      simp only [Bool.and_eq_true, decide_eq_true_eq] at hcond
      obtain ⟨⟨k1, k2⟩, k3⟩ := hcond
      cases h; cases hs
      have hfit := growslice_fits (need := m + 1) (old := 0) (bytes := by_) (by omega) k1
      have g1 : ¬ 9223372036854775807 < ((m : Int) + 1) := by omega
      have g2 : ¬ 281474976710656 < Builtin.nextslicecap (m + 1) 0 * by_ := by omega
      obtain ⟨hE0, hI0⟩ := hI.same (w' := w.drew) rfl rfl rfl rfl (fun _ => Nat.le_succ _)
      have hlen := RvL.length _ _ husR
      obtain ⟨hE, hI'⟩ := sc hI0 hnid hf0 new (us.toArray ++ Builtin.zeroCells zv.cells (grownCap w (m + 1) 0 e - (m + 1))) e (by
        have : (us.toArray ++ Builtin.zeroCells zv.cells (grownCap w (m + 1) 0 e - (m + 1))).toList.take new.length = us := by simp [<- hlen]
        rw [this]; exact RvL.ext hE0 _ _ husR) (by
        have : (us.toArray ++ Builtin.zeroCells zv.cells (grownCap w (m + 1) 0 e - (m + 1))).toList.take new.length = us := by simp [<- hlen]
        rw [this]; exact hus1)
      have hge : m + 1 <= grownCap w (m + 1) 0 e := by simp [grownCap, Question.cut]
      have hzsz : zv.cells.size = n := by simpa using hzl
      have e0 : (grownCap w (m + 1) 0 e - (m + 1)) * n + (m + 1) * n = grownCap w (m + 1) 0 e * n := by rw [<- Nat.add_mul]; congr 1; omega
      refine ⟨_, .slice (some ⟨w.heap.size, 0, none⟩) (m + 1) (grownCap w (m + 1) 0 e), _, _, ?_, .inl rfl, hE0.trans hE, hI', .inr ⟨_, _, _, jg hI hnid _, rfl, hge, rfl, fun _ => ⟨rfl, ?_⟩⟩, gI hI hnid _ _⟩
      · simp [Builtin.append_, run_underlying ht, run_underlying ht', sizeOf, typeInfo, zeroValue, hi, hzv, Builtin.lenOf, hsz, hbs, g1, g2, Question.forced, run_firstCells_none, hfd, newRow, grownCap]
      · simp only [Array.size_append, List.size_toArray, hul, size_zeroCells, hzsz]
        omega
    · cases h
   · split at h
     · rename_i h9; simp at h9
     · cases h
   ·
    rename_i i' off len es
    split at h
    · rename_i cs hH
      split at h
      · rename_i hcond
        simp only [Bool.and_eq_true, decide_eq_true_eq] at hcond
        obtain ⟨⟨⟨⟨rfl, k0⟩, k1⟩, k2⟩, k3⟩ := hcond
        cases h
        rcases hs with ⟨rfl, rfl⟩ | ⟨p, b, scap, h1', rfl, h2, hsp, h3⟩
        ·
         have hfit := growslice_fits (need := m + 1) (old := 0) (bytes := by_) (by omega) (by simpa using k2)
         have g1 : ¬ 9223372036854775807 < ((m : Int) + 1) := by omega
         have g2 : ¬ 281474976710656 < Builtin.nextslicecap (m + 1) 0 * by_ := by omega
         obtain ⟨hE0, hI0⟩ := hI.kill i' (w' := w.drew) rfl rfl rfl rfl (fun _ => Nat.le_succ _)
         have hlen := RvL.length _ _ husR
         obtain ⟨hE, hI'⟩ := sc hI0 (by simpa using hnid) hf0 ((cs.drop off).take (0 * es) ++ new) (us.toArray ++ Builtin.zeroCells zv.cells (grownCap w (m + 1) 0 e - (m + 1))) e (by
           have : (us.toArray ++ Builtin.zeroCells zv.cells (grownCap w (m + 1) 0 e - (m + 1))).toList.take ((cs.drop off).take (0 * es) ++ new).length = us := by simp [<- hlen]
           rw [this]; simpa using RvL.ext hE0 _ _ husR) (by
           have : (us.toArray ++ Builtin.zeroCells zv.cells (grownCap w (m + 1) 0 e - (m + 1))).toList.take ((cs.drop off).take (0 * es) ++ new).length = us := by simp [<- hlen]
           rw [this]; exact hus1)
         have hge : m + 1 <= grownCap w (m + 1) 0 e := by simp [grownCap, Question.cut]
         have hzsz : zv.cells.size = es := by simpa using hzl
         have e0 : (grownCap w (m + 1) 0 e - (m + 1)) * es + (m + 1) * es = grownCap w (m + 1) 0 e * es := by rw [<- Nat.add_mul]; congr 1; omega
         have hupd : aP H [(i', .dead), (nid, .own ((cs.drop off).take (0 * es) ++ new))] = aP (H.set i' .dead) [(nid, .own ((cs.drop off).take (0 * es) ++ new))] := by simp [aP, upd, aQ hH]
         rw [<- hupd] at hE hI'
         refine ⟨_, .slice (some ⟨w.heap.size, 0, none⟩) (m + 1) (grownCap w (m + 1) 0 e), _, _, ?_, .inl rfl, hE0.trans hE, hI', .inr ⟨_, ⟨w.heap.size, 0, none⟩, grownCap w (m + 1) 0 e, jg hI hnid _, by rw [Nat.zero_add], by rw [Nat.zero_add]; exact hge, rfl, fun _ => ⟨rfl, ?_⟩⟩, fun j hj => gI hI hnid _ (.own ((cs.drop off).take (0 * es) ++ new)) j (fun b hb => hj b (by simp at hb ⊢; exact .inr hb))⟩
         · simp [Builtin.append_, run_underlying ht, run_underlying ht', sizeOf, typeInfo, zeroValue, hi, hzv, Builtin.lenOf, hsz, hbs, g1, g2, Question.forced, run_firstCells_none, hfd, newRow, grownCap]
         · simp only [Array.size_append, List.size_toArray, hul, size_zeroCells, hzsz]
           omega
        obtain ⟨⟨c, te, hheap, hcs⟩, hC⟩ := hI.ok i' _ p hH h1'
        have hzsz : zv.cells.size = es := by simpa using hzl
        obtain ⟨os, o1, o2, o3, o4⟩ := qz (n := len * es) (RvC.drop off cs _ _ hC) (by simp; omega)
        have oldcell : ∀ (w' : World), (∀ ad, w'.cell? ad = w.cell? ad) -> ∀ b', some b = some b' -> ∀ j u, os[j]? = some u -> w'.cell? (b'.add j) = some u := by
         intro w' hw' b' hb' j u hj
         cases hb'
         rw [hw']
         by_cases hcap : 0 < scap
         · rw [(h3 hcap).1]; exact o4 j u hj
         · have : os.length = 0 := by
            rw [o1]; have : len = 0 := by omega
            simp [this]
           rw [List.length_eq_zero_iff] at this
           subst this; simp at hj
        by_cases hroom : len + (m + 1) <= scap
        ·
         obtain ⟨hb', hfit⟩ := h3 (by omega)
         subst hb'
         have hK : p.off + off + len * es + us.length <= c.size := by
          rw [hul, hcs]
          have : len * es + (m + 1) * es <= scap * es := by rw [<- Nat.add_mul]; exact Nat.mul_le_mul_right _ hroom
          omega
         have hst := run_storeCells_at P p.blk (p.off + off + len * es) te us 0 c w hheap (by simpa using hK) hus1
         simp only [Nat.add_zero] at hst
         have hrunA : (Builtin.append_ #[t, t'] ty #[.slice (some ⟨p.blk, p.off + off, none⟩) len scap, .slice a (m + 1) cap]).run P w =
           .ok (.slice (some ⟨p.blk, p.off + off, none⟩) (len + (m + 1)) scap) (w.setRow p.blk (c.toList.take (p.off + off + len * es) ++ us ++ c.toList.drop (p.off + off + len * es + us.length)).toArray) := by
          simp [Builtin.append_, run_underlying ht, run_underlying ht', bB hn, Builtin.lenOf, hroom, hfc, gx, hst]
         obtain ⟨hE, hI'⟩ := hI.grow hH h1' rfl (.own ((cs.drop off).take (len * es) ++ new)) ⟨p.blk, p.off + off, p.size⟩ rfl hnid hf0 (w' := w.setRow p.blk (c.toList.take (p.off + off + len * es) ++ us ++ c.toList.drop (p.off + off + len * es + us.length)).toArray)
          (by simp) (fun b hb => by simp only [World.setRow, Array.getElem?_modify]; rw [if_neg (by omega)]) rfl rfl rfl (fun _ => Nat.le_refl _) (fun hE => by
           refine ⟨⟨_, te, setRow_heap w _ c _ te _ hheap, ?_⟩, ?_⟩
           · simp; omega
           · refine jR _ (os ++ us) _ _ (RvL.append _ _ _ _ (RvL.ext hE _ _ o2) (RvL.ext hE _ _ husR)) ?_ ?_
             · intro u hu
               rcases List.mem_append.1 hu with hu | hu
               · exact o3 u hu
               · exact hus1 u hu
             · intro j u hj
               simp only [World.cell?, setRow_heap w _ c _ te _ hheap]
               simp only [Option.isSome_none, Bool.false_eq_true, if_false, List.getElem?_toArray]
               have hlt : (c.toList.take (p.off + off + len * es)).length = p.off + off + len * es := by simp; omega
               rw [List.append_assoc]
               by_cases hjl : j < os.length
               · rw [List.getElem?_append_left hjl] at hj
                 rw [List.getElem?_append_left (by rw [hlt]; omega), List.getElem?_take, if_pos (by omega)]
                 have := o4 j u hj
                 rw [gx] at this
                 simp only [World.cell?, hheap] at this
                 simpa using this
               · rw [List.getElem?_append_right (by omega)] at hj
                 rw [List.getElem?_append_right (by rw [hlt]; omega), hlt, show p.off + off + j - (p.off + off + len * es) = j - os.length by omega]
                 rw [List.getElem?_append_left (aQ hj)]
                 exact hj)
         have hupd : aP H [(i', .dead), (nid, .own ((cs.drop off).take (len * es) ++ new))] = upd (H.set i' .dead) nid (.own ((cs.drop off).take (len * es) ++ new)) := by simp [aP, upd, aQ hH]
         rw [<- hupd] at hE hI'
         refine ⟨_, .slice (some ⟨p.blk, p.off + off, none⟩) (len + (m + 1)) scap, _, _, by simp only [Sem.run_bind, hrunA, Result.andThen_ok]; rfl, .inl rfl, hE, hI', .inr ⟨_, _, _, jg hI hnid _, rfl, hroom, rfl, fun _ => ⟨rfl, ?_⟩⟩, fun j hj => gI hI hnid _ (.own ((cs.drop off).take (len * es) ++ new)) j (fun b hb => hj b (by simp at hb ⊢; exact .inr hb))⟩
         simpa using hfit
        ·
         have hfit := growslice_fits (need := len + (m + 1)) (old := scap) (bytes := by_) (by omega) k2
         have g1 : ¬ 9223372036854775807 < ((len : Int) + ((m : Int) + 1)) := by omega
         have g2 : ¬ 281474976710656 < Builtin.nextslicecap (len + (m + 1)) scap * by_ := by omega
         obtain ⟨hE0, hI0⟩ := Inv.tE hI hH h1' rfl .dead (w' := w.drew) rfl (fun _ _ => rfl) rfl rfl rfl (fun _ => Nat.le_succ _) (fun _ => trivial)
         have hlen := RvL.length _ _ husR
         have hfo := jG (P := P) (cap := scap) (a := some b) w.drew o1 (fun e => by cases e) (oldcell w.drew (fun _ => by simp))
         have hol := RvL.length _ _ o2
         have htk : (os.toArray ++ us.toArray ++ Builtin.zeroCells zv.cells (grownCap w (len + (m + 1)) scap e - (len + (m + 1)))).toList.take ((cs.drop off).take (len * es) ++ new).length = os ++ us := by
          simp only [Array.toList_append, List.length_append]
          rw [<- hol, <- hlen, <- List.length_append, List.take_left]
         obtain ⟨hE, hI'⟩ := sc hI0 (by simpa using hnid) hf0 ((cs.drop off).take (len * es) ++ new) (os.toArray ++ us.toArray ++ Builtin.zeroCells zv.cells (grownCap w (len + (m + 1)) scap e - (len + (m + 1)))) e
          (by rw [htk]; exact RvL.ext hE0 _ _ (RvL.append _ _ _ _ o2 husR)) (by
           rw [htk]; intro u hu
           rcases List.mem_append.1 hu with hu | hu
           · exact o3 u hu
           · exact hus1 u hu)
         have hge : len + (m + 1) <= grownCap w (len + (m + 1)) scap e := by simp [grownCap, Question.cut]
         have e0 : (grownCap w (len + (m + 1)) scap e - (len + (m + 1))) * es + (len * es + (m + 1) * es) = grownCap w (len + (m + 1)) scap e * es := by
          rw [<- Nat.add_mul, <- Nat.add_mul]; congr 1; omega
         have hupd : aP H [(i', .dead), (nid, .own ((cs.drop off).take (len * es) ++ new))] = aP (H.set i' .dead) [(nid, .own ((cs.drop off).take (len * es) ++ new))] := by simp [aP, upd, aQ hH]
         rw [<- hupd] at hE hI'
         refine ⟨_, .slice (some ⟨w.heap.size, 0, none⟩) (len + (m + 1)) (grownCap w (len + (m + 1)) scap e), _, _, ?_, .inl rfl, hE0.trans hE, hI', .inr ⟨_, _, _, jg hI hnid _, rfl, hge, rfl, fun _ => ⟨rfl, ?_⟩⟩, fun j hj => gI hI hnid _ (.own ((cs.drop off).take (len * es) ++ new)) j (fun b hb => hj b (by simp at hb ⊢; exact .inr hb))⟩
         · simp [Builtin.append_, run_underlying ht, run_underlying ht', sizeOf, typeInfo, zeroValue, hi, hzv, Builtin.lenOf, hsz, hbs, g1, g2, hroom, Question.forced, hfo, hfd, newRow, grownCap]
           congr 2
           apply Array.ext'
           simp [List.append_assoc]
         · simp only [Array.size_append, List.size_toArray, o1, hul, size_zeroCells, hzsz]
           omega
      · cases h
    · cases h
   · cases h
end
def xt (P : Program) : Prop := ∀ (f : Nat) (fn : Func), P.funcs[f]? = some fn -> fn.name ≠ "runtime.NumGoroutine"
section
variable {P : Program} {out : Nat -> Prop} {B : Nat -> Prop} {w : World} {Z : List (Option PB)} {H : List Blk}
theorem zJ (hI : Inv out B w Z H) {at_ : Array TypeId} {t e ty : TypeId} {n : Nat} {d x : AV} {vd vx : Value} {r : bt} (h0 : at_[0]? = some t) (ht : P.underlying t = some (.slice e)) (hn : eW P e = some n)
  (hd : Rv w (aM out Z H) Z d vd) (hx : Rv w (aM out Z H) Z x vx) (h : vy H n d x = some r) : b7 P out B w Z H (do pure (.value (<- Builtin.copy_ at_ ty #[vd, vx]))) r := by
 unfold vy at h
 split at h
 · cases h
 rename_i new m hc
 obtain ⟨a, cap, rfl, hnil, hcap, us, hul, husR, hus1, hcell⟩ := nH hI hx hc
 split at h
 rotate_left
 · cases h
 rename_i i off len es
 split at h
 rotate_left
 · cases h
 rename_i cs hH
 split at h
 rotate_left
 · cases h
 rename_i hcond
 cases h
 simp only [Bool.and_eq_true, decide_eq_true_eq] at hcond
 obtain ⟨rfl, hle⟩ := hcond
 have hkm : Nat.min m len <= m := Nat.min_le_left _ _
 have hkl : Nat.min m len <= len := Nat.min_le_right _ _
 have hk1 : Nat.min m len * es <= m * es := Nat.mul_le_mul_right _ hkm
 have hk2 : Nat.min m len * es <= len * es := Nat.mul_le_mul_right _ hkl
 have hkeep : aP H [(i, .own cs)] = H := by
  simp only [aP, upd, aQ hH, if_true]
  apply List.ext_getElem?
  intro j
  rw [List.getElem?_set]
  split
  · rename_i hij; subst hij; rw [if_pos (aQ hH)]; exact hH.symm
  · rfl
 have hfc : ∀ k, k <= m -> (Builtin.firstCells es k (.slice a m cap)).run P w = .ok (us.take (k * es)).toArray w := by
  intro k hk
  cases a with
  | none =>
   have := hnil rfl
   subst this
   have : us = [] := by rw [<- List.length_eq_zero_iff, hul]; simp
   subst this; simp [Builtin.firstCells]
  | some b =>
   refine run_firstCells_some w es k b m cap _ ?_ fun j u hj => hcell b rfl j u ?_
   · rw [List.length_take, hul]; exact Nat.min_eq_left (Nat.mul_le_mul_right _ hk)
   · rw [List.getElem?_take] at hj
     split at hj
     · exact hj
     · cases hj
 rcases hd with ⟨rfl, rfl⟩ | ⟨p, ad, dcap, hp, rfl, hdl, hsp, hpos⟩
 ·
  have e0 : Nat.min m 0 = 0 := Nat.min_zero m
  have hf := hfc 0 (Nat.zero_le _)
  simp only [e0, Nat.zero_mul, List.take_zero, setCells] at hf ⊢
  refine ⟨.value (.int .i64 0), .int .i64 0, w, Z, ?_, .inl rfl, ?_, ?_, rfl, fun _ _ => rfl⟩
  · simp [Builtin.copy_, h0, run_underlying ht, bB hn, Builtin.lenOf, e0, hf, goInt]
  · rw [hkeep]; exact Ext.refl _ _ _
  · rw [hkeep]; exact hI
 · have hf := hfc _ hkm
   by_cases hz : Nat.min m len * es = 0
   · rw [hz] at hf
     simp only [hz, List.take_zero, setCells] at hf ⊢
     refine ⟨.value (.int .i64 (Nat.min m len : Nat)), .int .i64 (Nat.min m len : Nat), w, Z, ?_, .inl rfl, ?_, ?_, rfl, fun _ _ => rfl⟩
     · simp only [Builtin.copy_] at *
       simp [h0, run_underlying ht, bB hn, Builtin.lenOf, hf, storeCells, goInt]
     · rw [hkeep]; exact Ext.refl _ _ _
     · rw [hkeep]; exact hI
   · have hc0 : 0 < dcap := by
      rcases Nat.eq_zero_or_pos dcap with h | h
      · have : Nat.min m len = 0 := by omega
        rw [this] at hz; simp at hz
      · exact h
     obtain ⟨hpa, _⟩ := hpos hc0
     obtain ⟨ab, ao, asp⟩ := ad
     have htl : RvL w (aM out Z H) Z (new.take (Nat.min m len * es)) (us.take (Nat.min m len * es)) := RvL.take _ _ _ husR
     have hnl := RvL.length _ _ husR
     obtain ⟨w', r1, r2, r3⟩ := mX (P := P) hp (new.take (Nat.min m len * es)) (us.take (Nat.min m len * es)) 0 off cs w H hI hH htl (fun v hv => hus1 v (List.mem_of_mem_take hv)) (by rw [List.length_take]; omega)
     have hu : aP H [(i, .own (setCells cs off (new.take (Nat.min m len * es))))] = H.set i (.own (setCells cs off (new.take (Nat.min m len * es)))) := by simp [aP, upd, aQ hH]
     rw [Nat.add_zero] at r2 r3
     refine ⟨.value (.int .i64 (Nat.min m len : Nat)), .int .i64 (Nat.min m len : Nat), w', Z, ?_, .inl rfl, by rw [hu]; exact r2, by rw [hu]; exact r3, rfl, fun _ _ => rfl⟩
     rw [hpa]
     simp only [Builtin.copy_] at *
     simp [h0, run_underlying ht, bB hn, Builtin.lenOf, hf, r1, goInt]
theorem vN (hI : Inv out B w Z H) {nid : Nat} (hnid : nid <= H.length) (hf0 : ∀ q, Z[nid]? ≠ some (some q)) {t t' e ty : TypeId} {kk : IntKind} {n by_ : Nat} {z : List AV} {s x : AV} {vs vx : Value} {r : bt} (ht : P.underlying t = some (.slice e)) (ht' : P.underlying t' = some (.int kk))
  (hn : eW P e = some n) (hb : oY P e = some by_) (hz : j1 P e = some z) (hs : Rv w (aM out Z H) Z s vs) (hx : Rv w (aM out Z H) Z x vx) (h : rR nid n by_ z s x = some r) :
  b7 P out B w Z H (do pure (.value (<- Builtin.append_ #[t, t'] ty #[vs, vx]))) r := by
 obtain ⟨zv, i, hi, hzv, hrun, rfl⟩ := pS hz w
 have hsz : i.size = n := by simpa [eW, hi] using hn
 have hbs : i.bytes = by_ := by simpa [oY, hi] using hb
 unfold rR at h
 split at h
 · rename_i k
   split at h
   · rename_i hcond
     simp only [Bool.and_eq_true, decide_eq_true_eq] at hcond
     obtain ⟨⟨⟨⟨⟨k0, k1⟩, k2⟩, k3⟩, k4⟩, k5⟩ := hcond
     cases h; cases hs; cases hx
     obtain ⟨M, rfl⟩ : ∃ M : Nat, k = (M : Int) := ⟨k.toNat, by omega⟩
     have hM : 0 < M := by omega
     have hM0 : ¬ M = 0 := by omega
     have hk : ((M : Int)).toNat = M := by omega
     rw [hk] at k2 ⊢
     have hfit := growslice_fits (need := M) (old := 0) (bytes := by_) (by omega) k2
     have g1 : ¬ 9223372036854775807 < (M : Int) := by omega
     have g2 : ¬ 281474976710656 < Builtin.nextslicecap M 0 * by_ := by omega
     have hw : IntKind.i64.wrap ((M : Int)) = (M : Int) := by
      simp [IntKind.wrap, IntKind.bits, IntKind.signed]; omega
     have g3 : ¬ (2 : Int) ^ 48 < (M : Int) * (by_ : Int) := by
      rw [<- Int.natCast_mul]; omega
     obtain ⟨hE0, hI0⟩ := hI.same (w' := w.drew) rfl rfl rfl rfl (fun _ => Nat.le_succ _)
     have hzsz : zv.cells.size = n := by simpa using k4
     have hz1 : (Builtin.zeroCells zv.cells M).toList = (List.replicate M zv.cells.toList).flatten := j6 zv.cells M (by omega)
     have hrv : ∀ (w0 : World) (mu0 : Nat -> Prop) (Z0 : List (Option PB)), RvL w0 mu0 Z0 (c8 (zv.cells.toList.map .at) M) ((List.replicate M zv.cells.toList).flatten) := fun _ _ _ => qo _ _
     have hlen := RvL.length _ _ (hrv w (aM out Z H) Z)
     have htk : (Builtin.zeroCells zv.cells M ++ Builtin.zeroCells zv.cells (grownCap w M 0 e - M)).toList.take (c8 (zv.cells.toList.map .at) M).length = (List.replicate M zv.cells.toList).flatten := by
      rw [<- hlen, Array.toList_append, hz1, List.take_left']
      rfl
     obtain ⟨hE, hI'⟩ := sc hI0 hnid hf0 (c8 (zv.cells.toList.map .at) M) (Builtin.zeroCells zv.cells M ++ Builtin.zeroCells zv.cells (grownCap w M 0 e - M)) e (by rw [htk]; exact hrv _ _ _) (by rw [htk]; exact jA (all_zero k5) _)
     have hge : M <= grownCap w M 0 e := by simp [grownCap, Question.cut]
     have e0 : (grownCap w M 0 e - M) * n + M * n = grownCap w M 0 e * n := by rw [<- Nat.add_mul]; congr 1; omega
     refine ⟨_, .slice (some ⟨w.heap.size, 0, none⟩) M (grownCap w M 0 e), _, _, ?_, .inl rfl, hE0.trans hE, hI', .inr ⟨_, _, _, jg hI hnid _, rfl, hge, rfl, fun _ => ⟨rfl, ?_⟩⟩, gI hI hnid _ _⟩
     · have hns : ¬ M * n = 0 := by
        intro h0; rcases Nat.mul_eq_zero.1 h0 with h0 | h0 <;> omega
       have hn0 : ¬ n = 0 := by omega
       have g3' : ¬ 281474976710656 < (M : Int) * (by_ : Int) := by rw [<- Int.natCast_mul]; omega
       have g4 : M <= 9223372036854775807 := by omega
       have hl0 : ¬ (M : Int) < 0 := by omega
       simp only [Builtin.append_]
       simp [run_underlying ht, run_underlying ht', sizeOf, typeInfo, zeroValue, hi, hzv, asInt, asIntOf, hw, hl0, g3', hM0, hn0, g4, hsz, hbs, g1, g2, hns, Question.forced, run_firstCells_none, newRow, grownCap]
     · simp only [Array.size_append, size_zeroCells, hzsz]
       omega
   · cases h
 · cases h
theorem yA (hI : Inv out B w Z H) {at_ : Array TypeId} {t e ty : TypeId} {n : Nat} {z : List AV} {d : AV} {vd : Value} {r : bt} (h0 : at_[0]? = some t) (ht : P.underlying t = some (.slice e)) (hn : eW P e = some n) (hz : j1 P e = some z)
  (hd : Rv w (aM out Z H) Z d vd) (h : q9 H n z d = some r) : b7 P out B w Z H (do pure (.value (<- Builtin.clear_ at_ ty #[vd]))) r := by
 obtain ⟨zv, i0, hi, hzv, hrun, rfl⟩ := pS hz w
 unfold q9 at h
 split at h
 rotate_left
 · cases h
 rename_i i off len es
 split at h
 rotate_left
 · cases h
 rename_i cs hH
 split at h
 rotate_left
 · cases h
 rename_i hcond
 cases h
 simp only [Bool.and_eq_true, decide_eq_true_eq] at hcond
 obtain ⟨⟨⟨⟨rfl, hle⟩, hzl⟩, hcell⟩, hpos0⟩ := hcond
 have hkeep : aP H [(i, .own cs)] = H := by
  simp only [aP, upd, aQ hH, if_true]
  apply List.ext_getElem?
  intro j
  rw [List.getElem?_set]
  split
  · rename_i hij; subst hij; rw [if_pos (aQ hH)]; exact hH.symm
  · rfl
 have hzs : zv.cells.size = es := by simpa using hzl
 rcases hd with ⟨rfl, rfl⟩ | ⟨p, ad, dcap, hp, rfl, hdl, hsp, hpos⟩
 · simp only [c8, setCells]
   refine ⟨.value (.tuple #[]), .tuple #[], w, Z, ?_, .inl rfl, ?_, ?_, rfl, fun _ _ => rfl⟩
   · simp [Builtin.clear_, h0, run_underlying ht]
   · rw [hkeep]; exact Ext.refl _ _ _
   · rw [hkeep]; exact hI
 · cases len with
   | zero =>
    simp only [c8, setCells]
    refine ⟨.value (.tuple #[]), .tuple #[], w, Z, ?_, .inl rfl, ?_, ?_, rfl, fun _ _ => rfl⟩
    · simp [Builtin.clear_, h0, run_underlying ht]
    · rw [hkeep]; exact Ext.refl _ _ _
    · rw [hkeep]; exact hI
   | succ m =>
    have hc0 : 0 < dcap := by omega
    obtain ⟨hpa, _⟩ := hpos hc0
    obtain ⟨ab, ao, asp⟩ := ad
    have hz1 : (Builtin.zeroCells zv.cells (m + 1)).toList = (List.replicate (m + 1) zv.cells.toList).flatten := j6 zv.cells (m + 1) (by omega)
    have htl : RvL w (aM out Z H) Z (c8 ((zv.cells.toList.map .at).map wkN) (m + 1)) ((List.replicate (m + 1) zv.cells.toList).flatten) := uV _ _
    have hnl := RvL.length _ _ htl
    have hzlen : (c8 ((zv.cells.toList.map .at).map wkN) (m + 1)).length = (m + 1) * es := by rw [<- hnl, <- hz1, Array.length_toList, size_zeroCells, hzs]
    obtain ⟨w', r1, r2, r3⟩ := mX (P := P) hp (c8 ((zv.cells.toList.map .at).map wkN) (m + 1)) ((List.replicate (m + 1) zv.cells.toList).flatten) 0 off cs w H hI hH htl (jA (all_zero hcell) _) (by omega)
    have hu : aP H [(i, .own (setCells cs off (c8 ((zv.cells.toList.map .at).map wkN) (m + 1))))] = H.set i (.own (setCells cs off (c8 ((zv.cells.toList.map .at).map wkN) (m + 1)))) := by simp [aP, upd, aQ hH]
    rw [Nat.add_zero] at r2 r3
    refine ⟨.value (.tuple #[]), .tuple #[], w', Z, ?_, .inl rfl, by rw [hu]; exact r2, by rw [hu]; exact r3, rfl, fun _ _ => rfl⟩
    rw [hpa]
    rw [<- hz1] at r1
    simp [Builtin.clear_, h0, run_underlying ht, hrun, r1]
theorem xB (hng : xt P) {f : FuncId} (h : vD P f = true) (args : Array Value) (w : World) : (callFunc f args).run P w = .ok (.enter f args) w := by
 unfold vD at h
 split at h
 · rename_i fn hf
   have hn := hng f fn hf
   have hb : ¬ fn.body = none := by intro e; simp [e] at h
   simp [callFunc, hf, hn, hb]
 · cases h
theorem uM (hI : Inv out B w Z H) {nid : Nat} (hnid : nid <= H.length) (hf0 : ∀ q, Z[nid]? ≠ some (some q)) {b : Builtin} {at_ : Array TypeId} {ty : TypeId} {consts : Array Bool} {args : List AV} {vs : List Value} {r : bt} (hv : RvL w (aM out Z H) Z args vs) (h : kS P H nid b at_ ty args = some r) :
  b7 P out B w Z H (builtin b at_ ty consts vs.toArray) r := by
 unfold kS at h
 split at h
 · rename_i x
   obtain ⟨v, vs', rfl, hx, rfl⟩ := hv
   split at h
   · rename_i t ht
     refine ir h fun A hA => ?_
     have : ∃ u, (Builtin.len_ at_ ty #[v]).run P w = .ok u w /\ Rv w (aM out Z H) Z A u := by
      unfold FA at hA
      split at hA
      · rename_i e nl cs len hu
        cases hA
        rcases hx with ⟨_, rfl, _, rfl⟩ | ⟨b, o, cap, rfl, _⟩ | ⟨rfl, _, a, cap, rfl⟩
        rotate_left 2
        · exact ⟨.int .i64 0, by simp [Builtin.len_, ht, run_underlying hu, goInt], rfl⟩
        · exact ⟨.int .i64 0, by simp [Builtin.len_, ht, run_underlying hu, goInt], rfl⟩
        · exact ⟨.int .i64 len, by simp [Builtin.len_, ht, run_underlying hu, goInt], rfl⟩
      · rename_i e b off len es hu
        cases hA
        rcases hx with ⟨rfl, rfl⟩ | ⟨p, a, cap, _, rfl, _⟩
        · exact ⟨.int .i64 0, by simp [Builtin.len_, ht, run_underlying hu, goInt], rfl⟩
        · exact ⟨.int .i64 len, by simp [Builtin.len_, ht, run_underlying hu, goInt], rfl⟩
      · rename_i e hu
        cases hA; cases hx
        exact ⟨.int .i64 0, by simp [Builtin.len_, ht, run_underlying hu, goInt], rfl⟩
      · rename_i s hu
        cases hA; cases hx
        exact ⟨.int .i64 s.size, by simp [Builtin.len_, ht, run_underlying hu, goInt], rfl⟩
      · rename_i y n e hu
        cases hA
        exact ⟨.int .i64 n, by simp [Builtin.len_, ht, run_underlying hu, goInt], rfl⟩
      · cases hA
     obtain ⟨u, h1, h2⟩ := this
     exact b7.value h1 h2
   · cases h
 · rename_i s x
   obtain ⟨v, vs', rfl, hs, u, vs'', rfl, hx, rfl⟩ := hv
   split at h
   · rename_i t t' h1 h2
     split at h
     · rename_i e e' hu hu'
       split at h
       · rename_i n by_ z hn hb hz
         split at h
         · rename_i hzl
           have := xc hI hnid hf0 (ty := ty) hu hu' hn hb hz (by simpa using hzl) hs hx h
           have e1 : (Builtin.append_ at_ ty #[v, u]).run P = (Builtin.append_ #[t, t'] ty #[v, u]).run P := by
            funext w
            simp only [Builtin.append_, h1, h2]
            rfl
           have e2 : (do pure (Next.value (<- Builtin.append_ at_ ty #[v, u])) : Sem Next).run P = (do pure (Next.value (<- Builtin.append_ #[t, t'] ty #[v, u])) : Sem Next).run P := by
            funext w; simp only [Sem.run_bind, e1]
           cases r with
           | pure A => obtain ⟨nx, y, k1, k2⟩ := this; exact ⟨nx, y, by rw [<- e2] at k1; exact k1, k2⟩
           | eff A H' => obtain ⟨nx, y, w', Z', k1, k2⟩ := this; exact ⟨nx, y, w', Z', by rw [<- e2] at k1; exact k1, k2⟩
           | call f as => obtain ⟨y, k1, k2⟩ := this; exact ⟨y, by rw [<- e2] at k1; exact k1, k2⟩
         · cases h
       · cases h
     · rename_i e kk hu hu'
       split at h
       · rename_i n by_ z hn hb hz
         have := vN hI hnid hf0 (ty := ty) hu hu' hn hb hz hs hx h
         have e1 : (Builtin.append_ at_ ty #[v, u]).run P = (Builtin.append_ #[t, t'] ty #[v, u]).run P := by
          funext w
          simp only [Builtin.append_, h1, h2]
          rfl
         have e2 : (do pure (Next.value (<- Builtin.append_ at_ ty #[v, u])) : Sem Next).run P = (do pure (Next.value (<- Builtin.append_ #[t, t'] ty #[v, u])) : Sem Next).run P := by
          funext w; simp only [Sem.run_bind, e1]
         cases r with
         | pure A => obtain ⟨nx, y, k1, k2⟩ := this; exact ⟨nx, y, by rw [<- e2] at k1; exact k1, k2⟩
         | eff A H' => obtain ⟨nx, y, w', Z', k1, k2⟩ := this; exact ⟨nx, y, w', Z', by rw [<- e2] at k1; exact k1, k2⟩
         | call f as => obtain ⟨y, k1, k2⟩ := this; exact ⟨y, by rw [<- e2] at k1; exact k1, k2⟩
       · cases h
     · cases h
   · cases h
 · rename_i d x
   obtain ⟨v, vs', rfl, hs, u, vs'', rfl, hx, rfl⟩ := hv
   split at h
   · rename_i t h1
     split at h
     · rename_i e hu
       split at h
       · rename_i n hn
         exact zJ hI h1 hu hn hs hx h
       · cases h
     · cases h
   · cases h
 · rename_i d
   obtain ⟨v, vs', rfl, hs, rfl⟩ := hv
   split at h
   · rename_i t h1
     split at h
     · rename_i e hu
       split at h
       · rename_i n z hn hz
         exact yA hI h1 hu hn hz hs h
       · cases h
     · cases h
   · cases h
 · split at h
   · rename_i us hus
     have := mI args vs us hv hus
     subst this
     split at h
     · rename_i y hy
       cases h
       exact b7.value (fo hy w) rfl
     · cases h
   · cases h
 · split at h
   · rename_i us hus
     have := mI args vs us hv hus
     subst this
     split at h
     · rename_i y hy
       cases h
       exact b7.value (fo hy w) rfl
     · cases h
   · cases h
 · split at h
   · rename_i us hus
     have := mI args vs us hv hus
     subst this
     split at h
     · rename_i y hy
       cases h
       exact b7.value (fo hy w) rfl
     · cases h
   · cases h
 · cases h
theorem jf (hng : xt P) (hI : Inv out B w Z H) {nid : Nat} (hnid : nid <= H.length) (hf0 : ∀ q, Z[nid]? ≠ some (some q)) {ρ : Operand -> AV} {ρc : Operand -> Value} (hρ : ∀ x, Rv w (aM out Z H) Z (ρ x) (ρc x)) {o : Oper} {r : bt} (h : evalOp P ρ H nid o = some r) :
  b7 P out B w Z H (execOp ρc o) r := by
 unfold evalOp at h
 unfold execOp
 cases hop : o.op <;> simp only [hop, vp, qq, wS, sd, jc, sE, mv, ow, jM, rO, sT, lz] at h ⊢
 case move x => cases h; exact ⟨_, _, rfl, .inl rfl, hρ x⟩
 case «assign» x => cases h; exact ⟨_, _, rfl, .inl rfl, hρ x⟩
 case pick c a b =>
  split at h
  · rename_i t hc
    cases h
    have hcv : ρc c = .bool t := by have := hρ c; rw [hc] at this; exact this
    refine ⟨_, if t then ρc a else ρc b, ?_, .inl rfl, zy (hρ a) (hρ b)⟩
    simp [hcv, asBool]
  · cases h
 case alloc t =>
  split at h
  · rename_i z hz
    split at h
    · rename_i h1; cases h; exact yT hI hnid hf0 hz h1
    · cases h
  · cases h
 case box t x =>
  split at h
  · rename_i h1; cases h; exact Bv hI hnid hf0 (hρ x) h1
  · cases h
 case build t parts =>
  split at h
  · rename_i z fs hz hu
    split at h
    · rename_i pl hpl
      split at h
      · rename_i h1
        split at h
        · rename_i cs hcs
          cases h
          obtain ⟨u, r1, r2⟩ := ry (w := w) (Z := Z) hρ hu hz hpl h1 hcs
          exact b7.value r1 r2
        · cases h
      · cases h
    · cases h
  · rename_i z len e hz hu
    split at h
    · rename_i n hn
      split at h
      · rename_i h1
        split at h
        · rename_i cs hcs
          cases h
          obtain ⟨u, r1, r2⟩ := sz (w := w) (Z := Z) hρ hu hz hn h1 hcs
          exact b7.value r1 r2
        · cases h
      · cases h
    · cases h
  · cases h
 case buildSlice t len parts =>
  split at h
  · rename_i e hu
    split at h
    · rename_i n z hn hz
      split at h
      · rename_i hc
        simp only [Bool.and_eq_true, decide_eq_true_eq] at hc
        split at h
        · rename_i cs hcs
          cases h
          exact tp hI hnid hf0 hρ hu hn hz hc.1.1 hc.1.2 hc.2 hcs
        · cases h
      · cases h
    · cases h
  · cases h
 case load t a =>
  refine ir h fun A hA => ?_
  obtain ⟨u, r1, r2⟩ := tL hI (hρ a) hA
  exact b7.value r1 r2
 case store t a x =>
  split at h
  · rename_i H' hH'
    cases h
    obtain ⟨w', r1, r2, r3⟩ := w9 hI (hρ a) (hρ x) hH'
    exact ⟨.skip, undef, w', Z, by simp [r1], .inr ⟨rfl, rfl⟩, r2, r3, trivial, fun _ _ => rfl⟩
  · cases h
 case nilCheck x =>
  have hx := hρ x
  split at h
  · rename_i b off hb
    cases h
    rw [hb] at hx
    have hx' := hx
    obtain ⟨p, _, hp⟩ := hx
    refine ⟨_, ρc x, ?_, .inl rfl, hx'⟩
    rw [hp]; rfl
  · rename_i cs off hb
    cases h
    rw [hb] at hx
    have hx' := hx
    obtain ⟨b, o, hp, _⟩ := hx
    refine ⟨_, ρc x, ?_, .inl rfl, hx'⟩
    rw [hp]; rfl
  · rename_i f a c hb
    cases h
    rw [hb] at hx
    have hx' := hx
    obtain ⟨fs, cs, hp, _⟩ := hx
    refine ⟨_, ρc x, ?_, .inl rfl, hx'⟩
    rw [hp]; rfl
  · cases h
 case binOp op t x y yt =>
  refine ir h fun A hA => ?_
  obtain ⟨u, r1, r2⟩ := wY (P := P) (hρ x) (hρ y) hA
  exact b7.value r1 r2
 case unOp op t x => exact vE (hρ x) (fun a b e hb => by subst e; exact fo hb w) h
 case convert s d x =>
  split at h
  · rename_i v hv
    cases h
    exact b7.value (yy (P := P) (w := w) (hρ x) hv) rfl
  · exact vE (hρ x) (fun a b e hb => by subst e; exact fo hb w) h
 case makeFunc fn fs cs =>
  cases fn <;> simp only at h
  case func f =>
   cases h
   refine b7.value (v := .func (.func f) (fs.map ρc) (cs.map ρc)) rfl ⟨fs.map ρc, cs.map ρc, rfl, ?_, ?_⟩
   · rw [Array.toList_map]; exact sF hρ _
   · rw [Array.toList_map]; exact sF hρ _
  all_goals cases h
 case makeSlice t l c =>
  split at h
  · rename_i e kl il kc ic hu hl hc
    split at h
    · rename_i n by_ z hn hb hz
      split at h
      · rename_i hcond
        simp only [Bool.and_eq_true, decide_eq_true_eq] at hcond
        obtain ⟨⟨⟨⟨⟨⟨k1, k2⟩, k3⟩, k4⟩, k5⟩, k6⟩, k7⟩ := hcond
        cases h
        have e1 := qd (hρ l) hl
        have e2 := qd (hρ c) hc
        rw [e1, e2]
        exact ui hI hnid hf0 hu hn hb hz k1 k2 k3 k4 k5 k6 k7
      · cases h
    · cases h
  · cases h
 case slice t x lo hi mx =>
  cases mx with
  | some m => simp only at h; cases h
  | none =>
   have ho : ∀ y : Option Operand, EW w (aM out Z H) Z (y.map ρ) (y.map ρc) := by
    intro y; cases y with
    | none => trivial
    | some y => exact hρ y
   simp only at h
   split at h
   · rename_i s hs
     have hx : ρc x = .string s := by have := hρ x; rw [hs] at this; exact this
     have opt : ∀ (y : Option Operand) (z : Option Value), (match y with | none => some none | some a => (toV (ρ a)).map some) = some z -> y.map ρc = z := by
      intro y z hz
      cases y with
      | none => cases hz; rfl
      | some a =>
       simp only at hz
       cases ha : toV (ρ a) with
       | none => simp [ha] at hz
       | some b => simp [ha] at hz; subst hz; simp [iu _ _ _ (hρ a) ha]
     split at h
     · rename_i l hh hl hh'
       have e1 := opt lo l hl
       have e2 := opt hi hh hh'
       split at h
       · rename_i r' hr'
         cases h
         rw [hx]
         simp only [Option.map_none]
         rw [e1, e2]
         exact b7.value (fo hr' w) rfl
       · cases h
     · cases h
   · refine ir h fun A hA => ?_
     obtain ⟨u, r1, r2⟩ := xk hI (hρ x) (ho lo) (ho hi) hA
     exact b7.value r1 r2
 case fieldAddr s x f =>
  refine ir h fun A hA => ?_
  obtain ⟨u, r1, r2⟩ := tt (P := P) (w := w) (hρ x) hA
  exact b7.value r1 r2
 case field s x f =>
  refine ir h fun A hA => ?_
  obtain ⟨u, r1, r2⟩ := w8 (P := P) (w := w) (hρ x) hA
  exact b7.value r1 r2
 case indexAddr t x ix =>
  refine ir h fun A hA => ?_
  obtain ⟨u, r1, r2⟩ := tH (P := P) (w := w) (hρ x) (hρ ix) hA
  exact b7.value r1 r2
 case index t x ix =>
  refine ir h fun A hA => ?_
  obtain ⟨u, r1, r2⟩ := xb (P := P) (w := w) (hρ x) (hρ ix) hA
  exact b7.value r1 r2
 case extract t ix =>
  split at h
  · rename_i vs hvs
    refine ir h fun A hA => ?_
    have ht := hρ t
    rw [hvs] at ht
    obtain ⟨us, hu, hr⟩ := ht
    obtain ⟨u, r1, r2⟩ := RvL.get _ _ _ _ hr hA
    rw [hu]
    exact b7.value (v := u) (by simp [Instr.extract, <- Array.getElem?_toList, r1]) r2
  · cases h
 case makeMap t r =>
  exact ub hI hnid hf0 (by cases r with | none => trivial | some y => exact hρ y) h
 case lookup t x ix ok =>
  refine ir h fun A hA => ?_
  obtain ⟨u, r1, r2⟩ := vK hI (hρ x) (hρ ix) hA
  exact b7.value r1 r2
 case mapUpdate t m k x => exact pV hI (hρ m) (hρ k) (hρ x) h
 case insert t m k x => exact pV hI (hρ m) (hρ k) (hρ x) h
 case mapEntry t m k => exact vJ hI (hρ m) (hρ k) h
 case entryStore t m s x => exact rL hI (hρ m) (hρ s) (hρ x) h
 case range t x => exact vS hI hnid hf0 (hρ x) h
 case entry it => exact sL hI (hρ it) h
 case call c =>
  cases hcal : c.callee <;> simp only [hcal] at h
  case value f =>
   split at h
   · rename_i g fs cs hf
     split at h
     · rename_i hc
       cases h
       have hfv := hρ f
       rw [hf] at hfv
       obtain ⟨a, b, e1, h1, h2⟩ := hfv
       refine ⟨a ++ c.args.map ρc ++ b, ?_, ?_⟩
       · simp [resolve, hcal, e1, Deferred.ofValue, invoke, xB hng hc]
       · simp only [Array.toList_append, Array.toList_map]
         exact RvL.append _ _ _ _ (RvL.append _ _ _ _ h1 (sF hρ _)) h2
     · cases h
   · cases h
  case builtin b =>
   have ea : (c.args.toList.map ρc).toArray = c.args.map ρc := by apply Array.ext'; simp
   have e : ∃ consts, ∀ w, (do let d <- resolve ρc c o.type; invoke d.target d.args : Sem Next).run P w = (builtin b c.argTypes o.type consts (c.args.toList.map ρc).toArray).run P w :=
    ⟨_, fun w => by rw [ea]; simp only [resolve, hcal, invoke, Sem.run_bind, Sem.run_pure, Result.andThen_ok]; rfl⟩
   obtain ⟨consts, e⟩ := e
   have := uM (consts := consts) hI hnid hf0 (sF hρ c.args.toList) h
   cases r with
   | pure A => obtain ⟨nx, y, k1, k2⟩ := this; exact ⟨nx, y, by rw [e]; exact k1, k2⟩
   | eff A H' => obtain ⟨nx, y, w', Z', k1, k2⟩ := this; exact ⟨nx, y, w', Z', by rw [e]; exact k1, k2⟩
   | call f as => obtain ⟨y, k1, k2⟩ := this; exact ⟨y, by rw [e]; exact k1, k2⟩
  case invoke => cases h
 all_goals cases h
end
end Go.Eng

