import Derived.Test.YtlpfiiejhikalaaGreatEng3Trks
import Derived.Laws.Cover3
import Derived.Laws.Pointers
import Derived.MapKept
set_option linter.all false
namespace Go.Eng
open Go Go.RowKit
variable [Dr]
def bL (P : Program) (out : Nat -> Prop) (B : Nat -> Prop) (w : World) (Z : List (Option PB)) (H : List Blk) (s : Sem Next) : bc -> Prop
 | .pure A => ∃ nx v, s.run P w = .ok nx w /\ (nx = .value v \/ nx = .skip /\ v = undef) /\ Rv w (aH out Z H) Z A v
 | .eff A ws => ∃ nx v w' Z', s.run P w = .ok nx w' /\ (nx = .value v \/ nx = .skip /\ v = undef) /\ Ext B w w' (aH out Z H) (aH out Z' (aO H ws)) Z Z' /\ Inv out B w' Z' (aO H ws) /\ Rv w' (aH out Z' (aO H ws)) Z' A v /\ ∀ j, (∀ b, (j, b) ∉ ws) -> Z'[j]? = Z[j]?
 | .call f args => ∃ vs, s.run P w = .ok (.enter f vs) w /\ RvL w (aH out Z H) Z args vs.toList
section
variable {P : Program} {out : Nat -> Prop} {B : Nat -> Prop} {w : World} {Z : List (Option PB)} {H : List Blk}
theorem bL.value {s : Sem Value} {A : AV} {v : Value} (h : s.run P w = .ok v w) (hA : Rv w (aH out Z H) Z A v) : bL P out B w Z H (do pure (.value (<- s))) (.pure A) :=
 ⟨.value v, v, by simp [h], .inl rfl, hA⟩
theorem fT {s : Sem Next} {o : Option AV} {r : bc} (h : bc.ofP o = some r) (hs : ∀ A, o = some A -> bL P out B w Z H s (.pure A)) : bL P out B w Z H s r := by
 cases o with
 | none => cases h
 | some A => cases h; exact hs A rfl
theorem qK {A : AV} {v : Value} {f : Value -> Option Value} {s : Sem Value} {r : bc} (hA : Rv w (aH out Z H) Z A v) (hf : ∀ x y, v = x -> f x = some y -> s.run P w = .ok y w) (h : zH f A = some r) :
  bL P out B w Z H (do pure (.value (<- s))) r := by
 unfold zH at h
 split at h
 · rename_i x hx
   split at h
   · rename_i y hy
     cases h
     exact bL.value (hf x y (fw A v x hA hx) hy) rfl
   · cases h
 · cases h
theorem vP {t : Bool} {A B' : AV} {a b : Value} (hA : Rv w (aH out Z H) Z A a) (hB : Rv w (aH out Z H) Z B' b) : Rv w (aH out Z H) Z (zE t A B') (if t then a else b) := by
 unfold zE
 split
 · cases hA; cases hB; cases t <;> rfl
 · cases t
   · exact hB
   · exact hA
theorem fM {mu : Nat -> Prop} {A : AV} {v : Value} {n : Int} (h : Rv w mu Z A v) (hi : rO A = some n) : ∃ k, v = .int k n := by
 unfold rO at hi; split at hi
 · cases hi; exact ⟨_, h⟩
 · cases hi
theorem mr {mu : Nat -> Prop} {A : AV} {v : Value} {k : IntKind} {n : Int} (h : Rv w mu Z A v) (hi : tU A = some (k, n)) : v = .int k n := by
 unfold tU at hi; split at hi
 · cases hi; exact h
 · cases hi
theorem pU {mu : Nat -> Prop} {A A' : AV} {v : Value} {n : Nat} (h : Rv w mu Z A v) (hp : xp n A = some A') : ∃ ad : Addr, v = .pointer (some ad) /\ Rv w mu Z A' (.pointer (some (ad.add n))) := by
 unfold xp at hp
 split at hp
 · cases hp; obtain ⟨p, h1, rfl⟩ := h
   exact ⟨_, rfl, p, h1, by rw [dF, Nat.add_assoc]⟩
 · cases hp; obtain ⟨b, o, rfl, h2, h3⟩ := h
   exact ⟨_, rfl, b, o, by rw [dF, Nat.add_assoc], h2, h3⟩
 · cases hp
theorem gD {mu : Nat -> Prop} {t : TypeId} {cs : List AV} {vs : Array Value} {off : Nat} {A : AV} (h : RvL w mu Z cs vs.toList) (hp : lU P t cs off = some A) :
  ∃ v, (part t vs off).run P w = .ok v w /\ Rv w mu Z A v := by
 unfold lU at hp
 split at hp
 · rename_i ha
   split at hp
   · rename_i n hn
     cases hp
     refine ⟨.agg (vs.extract off (off + n)), by simp [part, qj ha, bG hn], _, rfl, ?_⟩
     have := RvL.take n _ _ (RvL.drop off _ _ h)
     rw [Array.toList_extract, List.extract_eq_take_drop]
     rwa [show off + n - off = n by omega]
   · cases hp
 · rename_i ha
   obtain ⟨v, h1, h2⟩ := RvL.get _ _ _ _ h hp
   exact ⟨v, by simp [part, qj ha, <- Array.getElem?_toList, h1], h2⟩
 · cases hp
theorem tl {s : TypeId} {x : AV} {v : Value} {f : Nat} {A : AV} {mu : Nat -> Prop} (hx : Rv w mu Z x v) (h : vK P s x f = some A) : ∃ u, (Instr.field s v f).run P w = .ok u w /\ Rv w mu Z A u := by
 unfold vK at h
 split at h
 · rename_i fs cs hu
   split at h
   · rename_i fd hfd
     obtain ⟨vs, rfl, hvs⟩ := hx
     obtain ⟨u, h1, h2⟩ := gD hvs h
     exact ⟨u, by simp [Instr.field, run_underlying hu, hfd, asAgg, h1], h2⟩
   · cases h
 · rename_i fs a hu
   split at h
   · rename_i fd hfd
     cases hx
     obtain ⟨u, h1, h2⟩ := gD (dW a.toList) h
     exact ⟨u, by simp [Instr.field, run_underlying hu, hfd, asAgg, h1], h2⟩
   · cases h
 · cases h
theorem tA {t : TypeId} {x ix : AV} {v vi : Value} {A : AV} {mu : Nat -> Prop} (hx : Rv w mu Z x v) (hi : Rv w mu Z ix vi) (h : rE P t x ix = some A) : ∃ u, (Instr.index t v vi).run P w = .ok u w /\ Rv w mu Z A u := by
 unfold rE at h
 split at h
 · rename_i len e cs i hu he
   split at h
   · rename_i n hn hb
     simp only [Bool.and_eq_true, decide_eq_true_eq] at hb
     obtain ⟨vs, rfl, hvs⟩ := hx
     obtain ⟨k, rfl⟩ := fM hi he
     obtain ⟨u, h1, h2⟩ := gD hvs h
     exact ⟨u, by simp [Instr.index, asIntOf, run_underlying hu, hb, bG hn, h1], h2⟩
   · cases h
 · rename_i len e a i hu he
   split at h
   · rename_i n hn hb
     simp only [Bool.and_eq_true, decide_eq_true_eq] at hb
     cases hx
     obtain ⟨k, rfl⟩ := fM hi he
     obtain ⟨u, h1, h2⟩ := gD (dW a.toList) h
     exact ⟨u, by simp [Instr.index, asIntOf, run_underlying hu, hb, bG hn, h1], h2⟩
   · cases h
 · rename_i s i hu he
   have hx' : v = s := hx
   subst hx'
   split at h
   · rename_i j hj
     have := fw ix vi j hi hj
     subst this
     cases hp : dD P (Instr.index t v vi) with
     | none => simp [hp] at h
     | some u => simp [hp] at h; subst h; exact ⟨u, eJ hp w, rfl⟩
   · cases h
 · cases h
theorem pf {s : TypeId} {x : AV} {v : Value} {f : Nat} {A : AV} {mu : Nat -> Prop} (hx : Rv w mu Z x v) (h : nI P s x f = some A) : ∃ u, (Instr.fieldAt s v f).run P w = .ok u w /\ Rv w mu Z A u := by
 unfold nI at h
 split at h
 · rename_i fs hu
   split at h
   · rename_i fd hfd
     split at h
     · cases h
     · rename_i n hne hn
       obtain ⟨ad, rfl, h2⟩ := pU hx h
       refine ⟨_, ?_, h2⟩
       have hn0 : ¬ n = 0 := fun e => hne e
       simp [Instr.fieldAt, run_underlying hu, hfd, Instr.sureAddr, fieldPlace, bG hn, hn0]
     · cases h
   · cases h
 · cases h
theorem pn {t : TypeId} {x ix : AV} {v vi : Value} {A : AV} {mu : Nat -> Prop} (hx : Rv w mu Z x v) (hi : Rv w mu Z ix vi) (h : nZ P t x ix = some A) : ∃ u, (Instr.indexAt t v vi).run P w = .ok u w /\ Rv w mu Z A u := by
 unfold nZ at h
 split at h
 · rename_i e i hu he
   obtain ⟨k, rfl⟩ := fM hi he
   split at h
   · rename_i n nl cs len hn
     split at h
     · rename_i hb
       simp only [Bool.and_eq_true, decide_eq_true_eq] at hb
       cases h
       rcases hx with ⟨_, h0, _, _⟩ | ⟨b, o, cap, rfl, _, h3, h4⟩ | ⟨h0, _⟩
       rotate_left 2
       · omega
       · omega
       · exact ⟨_, by simp [Instr.indexAt, asIntOf, run_underlying hu, hb, bG hn]; rfl, b, o, by rw [dF], h3, h4⟩
     · cases h
   · rename_i n b off len es hn
     split at h
     · rename_i hb
       simp only [Bool.and_eq_true, decide_eq_true_eq] at hb
       cases h
       rcases hx with ⟨h0, _⟩ | ⟨p, a, cap, h1, rfl, h2, hsp, h3⟩
       · omega
       have h3' := (h3 (by omega)).1
       exact ⟨_, by simp [Instr.indexAt, asIntOf, run_underlying hu, hb, bG hn]; rfl, p, h1, by rw [h3', dF, Nat.add_assoc]⟩
     · cases h
   · cases h
 · rename_i len e i hu he
   obtain ⟨k, rfl⟩ := fM hi he
   split at h
   · rename_i n hn
     split at h
     · rename_i hb
       simp only [Bool.and_eq_true, decide_eq_true_eq] at hb
       obtain ⟨ad, rfl, h2⟩ := pU hx h
       exact ⟨_, by simp [Instr.indexAt, asIntOf, run_underlying hu, Instr.sureAddr, hb, bG hn], h2⟩
     · cases h
   · cases h
 · cases h
theorem cR {mu : Nat -> Prop} {isS : Bool} {len cap : Nat} {lo hi : Option AV} {vlo vhi : Option Value} {l h : Nat} (hle : len <= cap)
  (hlo : match lo, vlo with | none, none => True | some A, some v => Rv w mu Z A v | _, _ => False) (hhi : match hi, vhi with | none, none => True | some A, some v => Rv w mu Z A v | _, _ => False)
  (hb : lN len lo hi = some (l, h)) : (Instr.sliceBounds isS len cap vlo vhi none).run P w = .ok (l, h, cap) w /\ l <= h /\ h <= len := by
 unfold lN at hb
 split at hb
 · rename_i il ih e1 e2
   split at hb
   · rename_i hd
     simp only [Bool.and_eq_true, decide_eq_true_eq] at hd
     cases hb
     obtain ⟨⟨d1, d2⟩, d3⟩ := hd
     refine ⟨?_, by omega, by omega⟩
     cases lo with
     | none =>
      cases vlo with
      | some _ => exact hlo.elim
      | none =>
       cases e1
       cases hi with
       | none =>
        cases vhi with
        | some _ => exact hhi.elim
        | none => cases e2; simp [Instr.sliceBounds]
       | some A =>
        cases vhi with
        | none => exact hhi.elim
        | some v =>
         obtain ⟨k, rfl⟩ := fM hhi e2
         have : ih <= (cap : Int) := by omega
         simp [Instr.sliceBounds, Instr.sliceBound, asIntOf, this, d2]
     | some A =>
      cases vlo with
      | none => exact hlo.elim
      | some v =>
       obtain ⟨k, rfl⟩ := fM hlo e1
       cases hi with
       | none =>
        cases vhi with
        | some _ => exact hhi.elim
        | none => cases e2; simp [Instr.sliceBounds, Instr.sliceBound, asIntOf, d1, d2]
       | some A =>
        cases vhi with
        | none => exact hhi.elim
        | some v =>
         obtain ⟨k, rfl⟩ := fM hhi e2
         have h3 : ih <= (cap : Int) := by omega
         have h4 : 0 <= ih := by omega
         have h5 : (ih.toNat : Int) = ih := Int.toNat_of_nonneg h4
         simp only [Instr.sliceBounds, Instr.sliceBound, asIntOf, Sem.run_bind, Sem.run_pure, Result.andThen_ok, Sem.run_ite, h4, h3, and_self, if_true, d1, h5, d2]
   · cases hb
 · cases hb
end
section
variable {P : Program} {out : Nat -> Prop} {B : Nat -> Prop} {w : World} {Z : List (Option PB)} {H : List Blk}
def Bm (w : World) (mu : Nat -> Prop) (Z : List (Option PB)) (lo : Option AV) (vlo : Option Value) : Prop :=
 match lo, vlo with | none, none => True | some A, some v => Rv w mu Z A v | _, _ => False
theorem sZ (hI : Inv out B w Z H) {t : TypeId} {x : AV} {v : Value} {lo hi : Option AV} {vlo vhi : Option Value} {A : AV} (hx : Rv w (aH out Z H) Z x v)
  (hlo : Bm w (aH out Z H) Z lo vlo) (hhi : Bm w (aH out Z H) Z hi vhi) (h : pA P H t x lo hi = some A) : ∃ u, (Instr.sliceAt t v vlo vhi none).run P w = .ok u w /\ Rv w (aH out Z H) Z A u := by
 unfold pA at h
 split at h
 · rename_i e hu
   split at h
   · rename_i n nl cs len hn
     split at h
     · rename_i l h' hb
       cases h
       rcases hx with ⟨rfl, rfl, rfl, rfl⟩ | ⟨b, o, cap, rfl, hle, h3, h4⟩ | ⟨rfl, rfl, a, cap, rfl⟩
       · obtain ⟨r, r1, r2⟩ := cR (P := P) (w := w) (isS := true) (Nat.le_refl 0) hlo hhi hb
         have e1 : h' = 0 := by omega
         have e2 : l = 0 := by omega
         subst e1; subst e2
         exact ⟨.slice none 0 0, by simp [Instr.sliceAt, Instr.slice, run_underlying hu, r, bG hn], .inl ⟨rfl, rfl, by simp, rfl⟩⟩
       · obtain ⟨r, r1, r2⟩ := cR (P := P) (w := w) (isS := true) hle hlo hhi hb
         by_cases hc : cap = l
         · have e1 : h' - l = 0 := by omega
           refine ⟨.slice (some ⟨b, o, none⟩) (h' - l) (cap - l), by simp [Instr.sliceAt, Instr.slice, run_underlying hu, r, bG hn]; exact fun h => (h hc).elim, .inr (.inl ⟨b, o, cap - l, rfl, by omega, ?_, ?_⟩)⟩
           · intro hne; simp [e1] at hne
           · simp [e1, RvC]
         · refine ⟨.slice (some ⟨b, o + l * n, none⟩) (h' - l) (cap - l), by simp [Instr.sliceAt, Instr.slice, run_underlying hu, r, bG hn, hc, dF], .inr (.inl ⟨b, o + l * n, cap - l, rfl, by omega, ?_, ?_⟩)⟩
           · intro hne; exact h3 (by intro e0; subst e0; simp at hne)
           · exact RvC.take _ _ _ _ (RvC.drop _ _ _ _ h4)
       · obtain ⟨r, r1, r2⟩ := cR (P := P) (w := w) (isS := true) (Nat.zero_le cap) hlo hhi hb
         have e1 : h' = 0 := by omega
         have e2 : l = 0 := by omega
         subst e1; subst e2
         by_cases hc : cap = 0
         · exact ⟨.slice (some a) 0 0, by subst hc; simp [Instr.sliceAt, Instr.slice, run_underlying hu, r, bG hn], .inr (.inr ⟨rfl, by simp, a, 0, rfl⟩)⟩
         · exact ⟨.slice (some (a.add (0 * n))) 0 cap, by simp [Instr.sliceAt, Instr.slice, run_underlying hu, r, bG hn, hc], .inr (.inr ⟨rfl, by simp, _, cap, rfl⟩)⟩
     · cases h
   · rename_i n b off len es hn
     split at h
     · rename_i l h' hb hes
       cases h
       obtain rfl : es = n := by simpa using hes
       rcases hx with ⟨rfl, rfl⟩ | ⟨p, a, cap, h1, rfl, h2, hsp, h3⟩
       · obtain ⟨r, r1, r2⟩ := cR (P := P) (w := w) (isS := true) (Nat.le_refl 0) hlo hhi hb
         have e1 : h' = 0 := by omega
         have e2 : l = 0 := by omega
         subst e1; subst e2
         exact ⟨.slice none 0 0, by simp [Instr.sliceAt, Instr.slice, run_underlying hu, r, bG hn], .inl ⟨rfl, rfl⟩⟩
       obtain ⟨r, r1, r2⟩ := cR (P := P) (w := w) (isS := true) h2 hlo hhi hb
       by_cases hc : cap = l
       · refine ⟨.slice (some a) (h' - l) (cap - l), by simp [Instr.sliceAt, Instr.slice, run_underlying hu, r, bG hn]; exact fun h => (h hc).elim, .inr ⟨p, a, cap - l, h1, rfl, by omega, hsp, by omega⟩⟩
       · have h3' := h3 (by omega)
         refine ⟨.slice (some (a.add (l * es))) (h' - l) (cap - l), by simp [Instr.sliceAt, Instr.slice, run_underlying hu, r, bG hn, hc], .inr ⟨p, _, cap - l, h1, rfl, by omega, by rw [h3'.1, dF], fun _ => ⟨?_, ?_⟩⟩⟩
         · rw [h3'.1, dF, Nat.add_assoc]
         · have e0 : (cap - l) * es + l * es = cap * es := by rw [<- Nat.add_mul]; congr 1; omega
           omega
     · cases h
   · rename_i n hn
     split at h
     · rename_i lh hb
       cases h
       obtain rfl : v = .slice none 0 0 := hx
       obtain ⟨l, h'⟩ := lh
       obtain ⟨r, r1, r2⟩ := cR (P := P) (w := w) (isS := true) (Nat.le_refl 0) hlo hhi hb
       have e1 : h' = 0 := by omega
       have e2 : l = 0 := by omega
       subst e1; subst e2
       exact ⟨.slice none 0 0, by simp [Instr.sliceAt, Instr.slice, run_underlying hu, r, bG hn], rfl⟩
     · cases h
   · cases h
 · rename_i len e hu
   split at h
   · rename_i n b off hn
     split at h
     · rename_i l h' cs hb hH
       split at h
       · rename_i hfit
         simp only [Bool.and_eq_true, decide_eq_true_eq] at hfit
         cases h
         obtain ⟨p, h1, rfl⟩ := hx
         obtain ⟨r, r1, r2⟩ := cR (P := P) (w := w) (isS := false) (Nat.le_refl len) hlo hhi hb
         obtain ⟨⟨c, e', hheap, hsz⟩, hC⟩ := hI.ok b _ p hH h1
         by_cases hc : len = l
         · refine ⟨.slice (some ⟨p.blk, p.off + off, none⟩) (h' - l) (len - l), by simp [Instr.sliceAt, run_underlying hu, Instr.sureAddr, r, bG hn]; exact fun h => (h hc).elim, .inr ⟨p, _, len - l, h1, rfl, by omega, rfl, by omega⟩⟩
         · refine ⟨.slice (some ⟨p.blk, p.off + off + l * n, none⟩) (h' - l) (len - l), by simp [Instr.sliceAt, run_underlying hu, Instr.sureAddr, r, bG hn, hc, dF], .inr ⟨p, _, len - l, h1, rfl, by omega, rfl, fun _ => ⟨by rw [Nat.add_assoc], ?_⟩⟩⟩
           have hne : cs ≠ [] := by
            intro e0; subst e0
            have : 0 < len * n := Nat.mul_pos (by omega) hfit.2
            simp at hfit; omega
           have hbd := RvC.bound hC hheap hne
           have e0 : (len - l) * n + l * n = len * n := by rw [<- Nat.add_mul]; congr 1; omega
           omega
       · cases h
     · cases h
   · rename_i n cs off hn
     split at h
     · rename_i l h' hb
       cases h
       obtain ⟨b, o, rfl, h3, h4⟩ := hx
       obtain ⟨r, r1, r2⟩ := cR (P := P) (w := w) (isS := false) (Nat.le_refl len) hlo hhi hb
       by_cases hc : len = l
       · have e1 : h' - l = 0 := by omega
         refine ⟨.slice (some ⟨b, o + off, none⟩) (h' - l) (len - l), by simp [Instr.sliceAt, run_underlying hu, Instr.sureAddr, r, bG hn]; exact fun h => (h hc).elim, .inr (.inl ⟨b, o + off, len - l, rfl, by omega, ?_, ?_⟩)⟩
         · intro hne; simp [e1] at hne
         · simp [e1, RvC]
       · refine ⟨.slice (some ⟨b, o + off + l * n, none⟩) (h' - l) (len - l), by simp [Instr.sliceAt, run_underlying hu, Instr.sureAddr, r, bG hn, hc, dF], .inr (.inl ⟨b, o + off + l * n, len - l, rfl, by omega, ?_, ?_⟩)⟩
         · intro hne; exact h3 (by intro e0; subst e0; simp at hne)
         · rw [Nat.add_assoc]; exact RvC.take _ _ _ _ (RvC.drop _ _ _ _ h4)
     · cases h
   · cases h
 · cases h
theorem ou {mu : Nat -> Prop} {t : TypeId} {A : AV} {v x : Value} (hA : Rv w mu Z A v) (h : tq P t A x = true) :
  (binOp .eql t v x).run P w = .ok (.bool false) w /\ (binOp .neq t v x).run P w = .ok (.bool true) w /\ ∀ op a b, (eqGuard op t a b v x).run P w = .ok () w := by
 unfold tq at h
 split at h
 · rename_i e nl cs len hu
   rcases hA with ⟨h0, h1, _⟩ | ⟨b, o, cap, rfl, _⟩ | ⟨_, _, a, cap, rfl⟩
   · subst h0; subst h1; simp at h
   · have he := run_equal_slice_nil (P := P) w t e (some ⟨b, o, none⟩) len cap hu
     exact ⟨by simp [binOp, he], by simp [binOp, he], fun op a b => by cases op <;> simp [eqGuard]⟩
   · have he := run_equal_slice_nil (P := P) w t e (some a) 0 cap hu
     exact ⟨by simp [binOp, he], by simp [binOp, he], fun op a b => by cases op <;> simp [eqGuard]⟩
 · rename_i e b off len es hu
   rcases hA with ⟨rfl, _⟩ | ⟨p, a, cap, _, rfl, _⟩
   · simp at h
   have he := run_equal_slice_nil (P := P) w t e (some a) len cap hu
   exact ⟨by simp [binOp, he], by simp [binOp, he], fun op a b => by cases op <;> simp [eqGuard]⟩
 · rename_i e b off hu
   obtain ⟨p, _, rfl⟩ := hA
   have he := run_equal_pointer_nil (P := P) w t (some ⟨p.blk, p.off + off, none⟩) (by simp [Program.pointee, hu])
   exact ⟨by simp [binOp, he], by simp [binOp, he], fun op a b => by cases op <;> simp [eqGuard]⟩
 · rename_i e cs off hu
   obtain ⟨b, o, rfl, _⟩ := hA
   have he := run_equal_pointer_nil (P := P) w t (some ⟨b, o + off, none⟩) (by simp [Program.pointee, hu])
   exact ⟨by simp [binOp, he], by simp [binOp, he], fun op a b => by cases op <;> simp [eqGuard]⟩
 · cases h
theorem kN {mu : Nat -> Prop} {op : BinOp} {t : TypeId} {x y : Operand} {a b : AV} {va vb : Value} {A : AV} (ha : Rv w mu Z a va) (hb : Rv w mu Z b vb) (h : na P op t x y a b = some A) :
  ∃ u, (do eqGuard op t x y va vb; binOp op t va vb : Sem Value).run P w = .ok u w /\ Rv w mu Z A u := by
 unfold na at h
 split at h
 · rename_i u v hu hv
   have e1 := fw a va u ha hu
   have e2 := fw b vb v hb hv
   subst e1; subst e2
   split at h
   · rename_i r hr
     cases h
     exact ⟨r, eJ hr w, rfl⟩
   · cases h
 · rename_i v hu hv
   have e2 := fw b vb v hb hv
   subst e2
   split at h
   · rename_i hn
     cases h
     obtain ⟨h1, _, h3⟩ := ou (P := P) ha hn
     exact ⟨_, by simp [h1, h3], rfl⟩
   · rename_i hn
     cases h
     obtain ⟨_, h1, h3⟩ := ou (P := P) ha hn
     exact ⟨_, by simp [h1, h3], rfl⟩
   · cases h
 · cases h
theorem gq {mu : Nat -> Prop} {A : AV} {v : Value} {cs : List AV} (h : Rv w mu Z A v) (hc : rS A = some cs) : ∃ vs : Array Value, v = .agg vs /\ RvL w mu Z cs vs.toList := by
 unfold rS at hc
 split at hc
 · cases hc; exact h
 · cases hc
   cases h
   exact ⟨_, rfl, dW _⟩
 · cases hc
theorem nE {mu : Nat -> Prop} {d' : Nat} {f : TypeId -> AV -> AV -> Option Bool} (hf : ∀ t a b r va vb, f t a b = some r -> Rv w mu Z a va -> Rv w mu Z b vb -> (Op.equalIn d' t va vb).run P w = .ok r w) {xs ys : List AV} {vs us : Array Value} (hx : RvL w mu Z xs vs.toList) (hy : RvL w mu Z ys us.toList) :
  ∀ (fs : List Field) (r : Bool), uN P f xs ys fs = some r -> (Op.eqFields d' vs us fs).run P w = .ok r w
 | [], r, h => by cases h; simp [Op.eqFields]
 | g :: fs, r, h => by
  simp only [uN] at h
  simp only [Op.eqFields]
  split at h
  · rename_i hn
    rw [if_neg (by simpa using hn)]
    exact nE hf hx hy fs r h
  · rename_i hn
    rw [if_pos (by simpa using hn)]
    split at h
    · rename_i a b ha hb
      obtain ⟨va, a1, a2⟩ := gD hx ha
      obtain ⟨vb, b1, b2⟩ := gD hy hb
      split at h
      · rename_i r0 s hr hs
        cases h
        have ih := nE hf hx hy fs s hs
        simp only [Sem.run_bind, a1, b1, Result.andThen_ok, hf _ a b r0 va vb hr a2 b2]
        cases r0 <;> simp [ih]
      · cases h
    · cases h
theorem re {mu : Nat -> Prop} {d' : Nat} {e : TypeId} {f : AV -> AV -> Option Bool} (hf : ∀ a b r va vb, f a b = some r -> Rv w mu Z a va -> Rv w mu Z b vb -> (Op.equalIn d' e va vb).run P w = .ok r w) {n : Nat} {xs ys : List AV} {vs us : Array Value} (hx : RvL w mu Z xs vs.toList) (hy : RvL w mu Z ys us.toList) :
  ∀ (m i : Nat) (r : Bool), wu P f e n xs ys m i = some r ->
   ((forIn (List.range' i m) ((none, ()) : Option Bool × Unit) fun j _ => do
    let a <- part e vs (j * n)
    let b <- part e us (j * n)
    let c <- Op.equalIn d' e a b
    if (!c) = true then pure (.done (some false, ())) else pure (.yield (none, ())) : Sem (Option Bool × Unit)).run P w) = .ok (if r then (none, ()) else (some false, ())) w
 | 0, i, r, h => by cases h; simp
 | m + 1, i, r, h => by
  simp only [wu] at h
  split at h
  · rename_i a b ha hb
    obtain ⟨va, a1, a2⟩ := gD hx ha
    obtain ⟨vb, b1, b2⟩ := gD hy hb
    split at h
    · rename_i r0 s hr hs
      cases h
      have ih := re hf hx hy m (i + 1) s hs
      simp only [List.range'_succ, List.forIn_cons, Sem.run_bind, a1, b1, Result.andThen_ok, hf a b r0 va vb hr a2 b2]
      cases r0
      · simp
      · simp only [Bool.not_true, Bool.false_eq_true, if_false, Sem.run_pure, Result.andThen_ok, Bool.true_and]
        exact ih
    · cases h
  · cases h
theorem jP {mu : Nat -> Prop} : ∀ (d d' : Nat) (t : TypeId) (a b : AV) (r : Bool) (va vb : Value), d <= d' -> pa P d t a b = some r -> Rv w mu Z a va -> Rv w mu Z b vb -> (Op.equalIn d' t va vb).run P w = .ok r w
 | 0, _, _, _, _, _, _, _, _, h, _, _ => by cases h
 | d + 1, 0, _, _, _, _, _, _, hd, _, _, _ => by omega
 | d + 1, d' + 1, t, a, b, r, va, vb, hd, h, ha, hb => by
  simp only [pa] at h
  split at h
  · rename_i k0 hu
    split at h
    · rename_i k x k' y
      split at h
      · rename_i hk
        cases h
        obtain rfl := IntKind.ko hk
        cases ha; cases hb
        exact run_equalIn_int w d' t _ _ x y hu
      · cases h
    · cases h
  · rename_i hu
    split at h
    · cases h; cases ha; cases hb
      exact run_equalIn_bool' w d' t _ _ hu
    · cases h
  · rename_i fs hu
    split at h
    · rename_i xs ys hs hx hy
      obtain ⟨vs, rfl, h1⟩ := gq ha hx
      obtain ⟨us, rfl, h2⟩ := gq hb hy
      have hfs : P.fieldsOf t = fs := by unfold Program.fieldsOf; rw [hu]
      rw [run_equalIn_struct w d' t vs us (by rw [hfs]; exact hu) hs, hfs]
      exact nE (fun t a b r va vb h ha hb => jP d d' t a b r va vb (by omega) h ha hb) h1 h2 _ r h
    · cases h
  · rename_i n e hu
    split at h
    · rename_i k xs ys hs hx hy
      obtain ⟨vs, rfl, h1⟩ := gq ha hx
      obtain ⟨us, rfl, h2⟩ := gq hb hy
      have key := re (n := k) (fun a b r va vb h ha hb => jP d d' e a b r va vb (by omega) h ha hb) h1 h2 n 0 r h
      simp only [Op.equalIn, Sem.run_bind, run_underlying hu, Result.andThen_ok, bG hs, Std.Legacy.Range.forIn_eq_forIn_range', Std.Legacy.Range.size, Nat.sub_zero, Nat.add_sub_cancel, Nat.div_one]
      rw [key]
      cases r <;> simp
    · cases h
  · cases h
theorem oS {mu : Nat -> Prop} {op : BinOp} {t : TypeId} {x y : Operand} {a b : AV} {va vb : Value} {A : AV} (ha : Rv w mu Z a va) (hb : Rv w mu Z b vb) (h : tO P op t a b = some A) :
  ∃ u, (do eqGuard op t x y va vb; binOp op t va vb : Sem Value).run P w = .ok u w /\ Rv w mu Z A u := by
 unfold tO at h
 split at h
 · rename_i xs ys hg hx hy
   obtain ⟨vs, rfl, _⟩ := gq ha hx
   obtain ⟨us, rfl, _⟩ := gq hb hy
   split at h
   · rename_i r hr
     cases h
     refine ⟨.bool r, ?_, rfl⟩
     simp only [Sem.run_bind, run_eqGuard_agg w .eql t x y vs us hg, Result.andThen_ok, run_eql_struct, jP 8 10000 t a b r _ _ (by omega) hr ha hb]
   · cases h
 · rename_i xs ys hg hx hy
   obtain ⟨vs, rfl, _⟩ := gq ha hx
   obtain ⟨us, rfl, _⟩ := gq hb hy
   split at h
   · rename_i r hr
     cases h
     refine ⟨.bool (!r), ?_, rfl⟩
     simp only [Sem.run_bind, run_eqGuard_agg w .neq t x y vs us hg, Result.andThen_ok, run_neq_struct, jP 8 10000 t a b r _ _ (by omega) hr ha hb]
   · cases h
 · cases h
theorem tB {mu : Nat -> Prop} {op : BinOp} {t : TypeId} {x y : Operand} {a b : AV} {va vb : Value} {A : AV} (ha : Rv w mu Z a va) (hb : Rv w mu Z b vb) (h : lI P op t x y a b = some A) :
  ∃ u, (do eqGuard op t x y va vb; binOp op t va vb : Sem Value).run P w = .ok u w /\ Rv w mu Z A u := by
 unfold lI at h
 split at h
 · rename_i k m k' n
   split at h
   · rename_i hk
     obtain rfl := IntKind.ko hk
     split at h
     · rename_i r hr
       cases h; cases ha; cases hb
       exact ⟨r, tI hr w, rfl⟩
     · exact kN ha hb h
   · exact kN ha hb h
 · exact oS ha hb h
 · exact oS ha hb h
 · exact kN ha hb h
theorem uT {mu : Nat -> Prop} {src dst : TypeId} {a : AV} {v u : Value} (ha : Rv w mu Z a v) (h : yq P src dst a = some u) : (convert src dst v).run P w = .ok u w := by
 unfold yq at h
 split at h
 · split at h
   · rename_i d k hs hd
     cases h; cases ha
     simp [convert, run_underlying hs, run_underlying hd, Conv.intToInt, fh]
   · cases h
 · cases h
end
end Go.Eng


namespace Go.Eng
open Go Go.RowKit Go.MapKept
variable [Dr]
section
variable {P : Program} {out : Nat -> Prop} {B : Nat -> Prop} {w : World} {Z : List (Option PB)} {H : List Blk}
theorem o5 : ∀ (l l' : List Value), lR l l' = some true -> l = l' /\ (l'.zip l).all (fun (x, y) => Instr.sameBits 9999 x y) = true
 | [], [], _ => ⟨rfl, rfl⟩
 | .int k x :: l, .int k' y :: l', h => by
  simp only [lR] at h
  split at h
  · rename_i r' hk h1
    simp only [Option.some.injEq, Bool.and_eq_true, beq_iff_eq] at h
    obtain ⟨rfl, rfl⟩ := h
    obtain rfl := IntKind.ko hk
    obtain ⟨rfl, h2⟩ := o5 l l' h1
    exact ⟨rfl, by rw [List.zip_cons_cons, List.all_cons, h2]; simp [Instr.sameBits]⟩
  · cases h
 | [], _ :: _, h => by simp [lR] at h
theorem uh {k v : Value} (h : kEq k v = some true) : Instr.sameBits 10000 v k = true := by
 unfold kEq at h
 split at h
 · rename_i a b
   obtain ⟨h1, h2⟩ := o5 _ _ h
   have hs : b.size = a.size := by have := congrArg List.length h1; simpa using this.symm
   show (b.size == a.size && (b.toList.zip a.toList).all fun (x, y) => Instr.sameBits 9999 x y) = true
   rw [h2, hs]; simp
 · split at h
   · rename_i hb
     have e := IntKind.ko hb
     subst e
     simp only [Option.some.injEq, beq_iff_eq] at h
     subst h; simp [Instr.sameBits]
   · cases h
 · simp only [Option.some.injEq, beq_iff_eq] at h
   subst h; simp [Instr.sameBits]
 · cases h
theorem jO {e : TypeId} (h : kG P e = true) : (∃ k, P.underlying e = some (.int k)) /\ dM P e = some 1 /\ xS P e = some false := by
 unfold kG at h
 split at h
 · rename_i k n hu hs
   obtain rfl := Nat.eq_of_beq_eq_true h
   exact ⟨⟨k, hu⟩, hs, by unfold xS; rw [hu]⟩
 · cases h
theorem tR {e : TypeId} (h : kG P e = true) {k k' : IntKind} {x y : Int} (hk : IntKind.nk k k' = true) (d : Nat) : pa P (d + 1) e (.at (.int k x)) (.at (.int k' y)) = some (x == y) := by
 obtain ⟨⟨q, hu⟩, _, _⟩ := jO h
 simp only [pa, hu, hk]
theorem sO {e : TypeId} (h : kG P e = true) (xs : List Value) (i : Nat) : lU P e (xs.map .at) i = (xs[i]?).map .at := by
 obtain ⟨_, _, ha⟩ := jO h
 simp only [lU, ha, List.getElem?_map]
theorem drop_cons {xs l : List Value} {x : Value} {i : Nat} (h : xs.drop i = x :: l) : xs[i]? = some x /\ xs.drop (i + 1) = l := by
 have h1 : xs[i]? = some x := by rw [<- List.head?_drop, h]; rfl
 refine ⟨h1, ?_⟩
 rw [<- List.drop_drop, h]; rfl
theorem zD {xs ys : List Value} : ∀ (fs : List Field) (i : Nat) (r : Bool), pd P fs i = true -> lR (xs.drop i) (ys.drop i) = some r -> (xs.drop i).length = fs.length -> uN P (pa P 1) (xs.map .at) (ys.map .at) fs = some r
 | [], i, r, _, h, hl => by
  have : xs.drop i = [] := List.length_eq_zero_iff.1 hl
  rw [this] at h
  cases hy : ys.drop i with
  | nil => rw [hy] at h; simp only [lR] at h; simp only [uN]; exact h
  | cons y l => rw [hy] at h; simp [lR] at h
 | f :: fs, i, r, hw, h, hl => by
  simp only [pd, Bool.and_eq_true] at hw
  obtain ⟨⟨⟨w1, w2⟩, w3⟩, w4⟩ := hw
  have w2 := Nat.eq_of_beq_eq_true w2
  cases hx : xs.drop i with
  | nil => rw [hx] at hl; simp at hl
  | cons x l =>
   cases hy : ys.drop i with
   | nil => rw [hx, hy] at h; cases x <;> simp [lR] at h
   | cons y l' =>
    obtain ⟨x1, x2⟩ := drop_cons hx
    obtain ⟨y1, y2⟩ := drop_cons hy
    rw [hx, hy] at h
    have hl' : (xs.drop (i + 1)).length = fs.length := by rw [x2]; rw [hx] at hl; simpa using hl
    unfold lR at h
    split at h
    · rename_i e1 _; cases e1
    · rename_i k a l0 k' b l0' e1 e2
      cases e1; cases e2
      split at h
      · rename_i r' hk h1
        cases h
        have ih := zD (xs := xs) (ys := ys) fs (i + 1) r' w4 (by rw [x2, y2]; exact h1) hl'
        have hn : decide (f.name = "_") = false := by simpa using w1
        simp only [uN, hn, sO w3, w2, x1, y1, Option.map_some, tR w3 hk, ih]
      · cases h
    · cases h
theorem yB {e : TypeId} (w3 : kG P e = true) {xs ys : List Value} : ∀ (m i : Nat) (r : Bool), lR (xs.drop i) (ys.drop i) = some r -> (xs.drop i).length = m -> wu P (pa P 1 e) e 1 (xs.map .at) (ys.map .at) m i = some r
 | 0, i, r, h, hl => by
  have : xs.drop i = [] := List.length_eq_zero_iff.1 hl
  rw [this] at h
  cases hy : ys.drop i with
  | nil => rw [hy] at h; simp only [lR] at h; simp only [wu]; exact h
  | cons y l => rw [hy] at h; simp [lR] at h
 | m + 1, i, r, h, hl => by
  cases hx : xs.drop i with
  | nil => rw [hx] at hl; simp at hl
  | cons x l =>
   cases hy : ys.drop i with
   | nil => rw [hx, hy] at h; cases x <;> simp [lR] at h
   | cons y l' =>
    obtain ⟨x1, x2⟩ := drop_cons hx
    obtain ⟨y1, y2⟩ := drop_cons hy
    rw [hx, hy] at h
    have hl' : (xs.drop (i + 1)).length = m := by rw [x2]; rw [hx] at hl; simpa using hl
    unfold lR at h
    split at h
    · rename_i e1 _; cases e1
    · rename_i k a l0 k' b l0' e1 e2
      cases e1; cases e2
      split at h
      · rename_i r' hk h1
        cases h
        have ih := yB w3 (xs := xs) (ys := ys) m (i + 1) r' (by rw [x2, y2]; exact h1) hl'
        simp only [wu, Nat.mul_one, sO w3, x1, y1, Option.map_some, tR w3 hk, ih]
      · cases h
    · cases h
theorem rG {t : TypeId} {a b : Array Value} {r : Bool} (ha : jG P t a = true) (h : lR a.toList b.toList = some r) (w : World) : (Op.equal t (.agg a) (.agg b)).run P w = .ok r w := by
 have key : pa P 2 t (.at (.agg a)) (.at (.agg b)) = some r := by
  unfold jG at ha
  split at ha
  · rename_i n e hu
    simp only [Bool.and_eq_true] at ha
    obtain ⟨⟨h1, h2⟩, _⟩ := ha
    obtain ⟨_, hs, _⟩ := jO h1
    have h2 := Nat.eq_of_beq_eq_true h2
    simp only [pa, hu, hs, rS]
    exact yB h1 n 0 r (by simpa using h) (by simpa using h2)
  · rename_i fs hu
    simp only [Bool.and_eq_true] at ha
    obtain ⟨⟨⟨h1, h2⟩, _⟩, h4⟩ := ha
    have h2 := Nat.eq_of_beq_eq_true h2
    have h4 : P.stoodInHeld t = false := by simpa using h4
    simp only [pa, hu, h4, rS]
    exact zD fs.toList 0 r h1 (by simpa using h) (by simpa using h2)
  · cases ha
 exact jP (P := P) (w := w) (mu := fun _ => False) (Z := []) 2 10000 t _ _ r _ _ (by omega) key rfl rfl
theorem x6 {e : TypeId} (h : kG P e = true) (em : Bool) (n : Nat) {k : IntKind} {x : Int} (w : World) : (Instr.checkKey em (n + 1) e (.int k x)).run P w = .ok () w := by
 obtain ⟨⟨q, hu⟩, _, _⟩ := jO h
 simp [Instr.checkKey, run_underlying hu]
theorem qQ : ∀ (l : List Value), oL l = true -> ∀ (i : Nat) (v : Value), l[i]? = some v -> ∃ k x, v = .int k x
 | [], _, i, v, hi => by simp at hi
 | .int k x :: l, h, i, v, hi => by
  cases i with
  | zero => simp at hi; exact ⟨k, x, hi.symm⟩
  | succ i => exact qQ l (by simpa [oL] using h) i v (by simpa using hi)
theorem uH {e : TypeId} (h : kG P e = true) {xs : Array Value} {i : Nat} {v : Value} (hx : xs[i]? = some v) (w : World) : (part e xs i).run P w = .ok v w := by
 obtain ⟨⟨q, hu⟩, _, _⟩ := jO h
 simp [part, isAgg, run_underlying hu, hx]
theorem uQ {t : TypeId} {a : Array Value} (ha : jG P t a = true) (em : Bool) (n : Nat) (w : World) (hn : ∀ (e : TypeId) (k : IntKind) (x : Int), kG P e = true -> (Instr.checkKey em n e (.int k x)).run P w = .ok () w) : (Instr.checkKey em (n + 1) t (.agg a)).run P w = .ok () w := by
 unfold jG at ha
 split at ha
 · rename_i m0 e hu
   simp only [Bool.and_eq_true] at ha
   obtain ⟨⟨h1, h2⟩, h3⟩ := ha
   obtain ⟨_, hs, _⟩ := jO h1
   have h2 := Nat.eq_of_beq_eq_true h2
   have key : ∀ (m i : Nat), i + m <= a.size -> ((forIn (List.range' i m) PUnit.unit fun j _ => do
     let s <- sizeOf e
     let v <- part e a (j * s)
     Instr.checkKey em n e v
     pure (ForInStep.yield PUnit.unit) : Sem PUnit).run P w) = .ok PUnit.unit w := by
    intro m
    induction m with
    | zero => intro i _; simp
    | succ m ih =>
     intro i hi
     have hlt : i < a.size := by omega
     have hx : a[i]? = some a[i] := Array.getElem?_eq_getElem hlt
     obtain ⟨k, x, e1⟩ := qQ a.toList h3 i a[i] (by rw [Array.getElem?_toList]; exact hx)
     simp only [List.range'_succ, List.forIn_cons, Sem.run_bind, bG hs, Result.andThen_ok, Nat.mul_one, uH h1 hx, e1, hn e k x h1, Sem.run_pure]
     exact ih (i + 1) (by omega)
   have := key m0 0 (by omega)
   simp only [Instr.checkKey, Sem.run_bind, run_underlying hu, Result.andThen_ok, Std.Legacy.Range.forIn_eq_forIn_range', Std.Legacy.Range.size, Nat.sub_zero, Nat.add_sub_cancel, Nat.div_one, this, Sem.run_pure]
 · rename_i fs hu
   simp only [Bool.and_eq_true] at ha
   obtain ⟨⟨⟨h1, h2⟩, h3⟩, _⟩ := ha
   have h2 := Nat.eq_of_beq_eq_true h2
   have key : ∀ (l : List Field) (i : Nat), pd P l i = true -> i + l.length <= a.size -> ((forIn l PUnit.unit fun f _ =>
     if f.name ≠ "_" then do
      let v <- part f.type a f.offset
      Instr.checkKey em n f.type v
      pure (ForInStep.yield PUnit.unit)
     else pure (ForInStep.yield PUnit.unit) : Sem PUnit).run P w) = .ok PUnit.unit w := by
    intro l
    induction l with
    | nil => intro i _ _; simp
    | cons f l ih =>
     intro i hw hi
     simp only [pd, Bool.and_eq_true] at hw
     obtain ⟨⟨⟨w1, w2⟩, w3⟩, w4⟩ := hw
     have w2 := Nat.eq_of_beq_eq_true w2
     have hlt : i < a.size := by simp at hi; omega
     have hx : a[i]? = some a[i] := Array.getElem?_eq_getElem hlt
     obtain ⟨k, x, e1⟩ := qQ a.toList h3 i a[i] (by rw [Array.getElem?_toList]; exact hx)
     have hnm : f.name ≠ "_" := by simpa using w1
     simp only [List.forIn_cons, Sem.run_bind, hnm, ne_eq, not_false_eq_true, if_true, w2, uH w3 hx, Result.andThen_ok, e1, hn f.type k x w3, Sem.run_pure]
     exact ih (i + 1) w4 (by simp at hi; omega)
   have := key fs.toList 0 h1 (by omega)
   simp only [Instr.checkKey, Sem.run_bind, run_underlying hu, Result.andThen_ok]
   rw [<- Array.forIn_toList]
   have e := congrArg (fun r => r.andThen fun (a : PUnit) w' => Sem.run P (pure ()) w') this
   simp only [Result.andThen_ok, Sem.run_pure] at e
   first | exact this | exact e
 · cases ha
theorem vE {t : TypeId} {a : Array Value} (ha : jG P t a = true) (em : Bool) (w : World) : (Instr.checkKey em 10000 t (.agg a)).run P w = .ok () w := uQ ha em 9999 w fun e k x h => x6 h em 9998 w
theorem nu {mu : Nat -> Prop} {t : TypeId} {a : Array Value} (ha : jG P t a = true) : ∀ (es : List (Value × AV)) (l : List MapEntry) (i0 j : Nat) (r : Option (Nat × AV)), RvM w mu Z j es l -> gA (.agg a) es i0 = some r ->
  (r = none /\ (Instr.findAsking t (.agg a) l i0).run P w = .ok none w) \/ ∃ (jx : Nat) (e : MapEntry) (A : AV), r = some (i0 + jx, A) /\ (Instr.findAsking t (.agg a) l i0).run P w = .ok (some (i0 + jx, e.val)) w /\ l[jx]? = some e /\ es[jx]? = some (e.key, A) /\ e.born = j + jx /\ Rv w mu Z A e.val /\ Instr.sameBits 10000 e.key (.agg a) = true
 | [], l, i0, j, r, h, hf => by cases h; cases hf; exact .inl ⟨rfl, by simp [Instr.findAsking]⟩
 | (k', A) :: es, l, i0, j, r, h, hf => by
  obtain ⟨e, l', rfl, rfl, h0, h3, h4⟩ := h
  simp only [gA] at hf
  have hag : ∀ b, kEq (.agg a) e.key = some b -> ∃ c, e.key = .agg c /\ lR a.toList c.toList = some b := by
   intro b hb
   cases hk : e.key <;> rw [hk] at hb <;> simp only [kEq] at hb
   all_goals first | exact ⟨_, rfl, hb⟩ | cases hb
  split at hf
  · rename_i hb
    cases hf
    obtain ⟨c, hc, hq⟩ := hag _ hb
    refine .inr ⟨0, e, A, rfl, ?_, rfl, rfl, h0, h3, uh hb⟩
    simp only [Instr.findAsking, hc, Sem.run_bind, rG ha hq, Result.andThen_ok, if_true, Sem.run_pure, Nat.add_zero]
  · rename_i hb
    obtain ⟨c, hc, hq⟩ := hag _ hb
    have hstep : (Instr.findAsking t (.agg a) (e :: l') i0).run P w = (Instr.findAsking t (.agg a) l' (i0 + 1)).run P w := by
     simp only [Instr.findAsking, hc, Sem.run_bind, rG ha hq, Result.andThen_ok, Bool.false_eq_true, if_false]
    rcases nu ha es l' (i0 + 1) (j + 1) r h4 hf with ⟨e1, e2⟩ | ⟨jx, e', A', e1, e2, e3, e4, e5, e6, e7⟩
    · exact .inl ⟨e1, by rw [hstep]; exact e2⟩
    · exact .inr ⟨jx + 1, e', A', by rw [e1]; congr 2; omega, by rw [hstep, e2]; congr 3; omega, by simpa using e3, by simpa using e4, by omega, e6, e7⟩
  · cases hf
theorem wU {d : TypeDesc} {k v : Value} {b : Bool} (hk : IsKey d k) (h : kEq k v = some b) : Instr.sameNow d k v = some b := by
 unfold kEq at h
 split at h
 · cases d <;> simp only [IsKey] at hk
 · rename_i k1 x k2 y
   split at h
   · rename_i hb
     cases h
     have e := IntKind.ko hb
     subst e
     cases d <;> simp only [IsKey] at hk
     simp [Instr.sameNow]
   · cases h
 · cases h
   cases d <;> simp only [IsKey] at hk
   simp [Instr.sameNow]
 · cases h
theorem pL {mu : Nat -> Prop} {d : TypeDesc} {k : Value} (hk : IsKey d k) : ∀ (es : List (Value × AV)) (l : List MapEntry) (i0 j : Nat) (r : Option (Nat × AV)), RvM w mu Z j es l -> gA k es i0 = some r ->
  (r = none /\ Instr.findNow d k l i0 = some none) \/ ∃ (jx : Nat) (e : MapEntry) (A : AV), r = some (i0 + jx, A) /\ Instr.findNow d k l i0 = some (some (i0 + jx, e.val)) /\ l[jx]? = some e /\ es[jx]? = some (e.key, A) /\ e.born = j + jx /\ Rv w mu Z A e.val /\ Instr.sameBits 10000 e.key k = true
 | [], l, i0, j, r, h, hf => by cases h; cases hf; exact .inl ⟨rfl, rfl⟩
 | (k', A) :: es, l, i0, j, r, h, hf => by
  obtain ⟨e, l', rfl, rfl, h0, h3, h4⟩ := h
  simp only [gA] at hf
  split at hf
  · rename_i hb
    cases hf
    have g1 := wU hk hb
    exact .inr ⟨0, e, A, rfl, by simp [Instr.findNow, g1], rfl, rfl, h0, h3, uh hb⟩
  · rename_i hb
    have g1 := wU hk hb
    rcases pL hk es l' (i0 + 1) (j + 1) r h4 hf with ⟨e1, e2⟩ | ⟨jx, e', A', e1, e2, e3, e4, e5, e6, e7⟩
    · exact .inl ⟨e1, by simp [Instr.findNow, g1, e2]⟩
    · exact .inr ⟨jx + 1, e', A', by rw [e1]; congr 2; omega, by simp [Instr.findNow, g1, e2]; omega, by simpa using e3, by simpa using e4, by omega, e6, e7⟩
  · cases hf
theorem gz {mu : Nat -> Prop} {t : TypeId} {k : Value} (hk : dV P t k = true) {es : List (Value × AV)} {l : List MapEntry} {r : Option (Nat × AV)} (h : RvM w mu Z 0 es l) (hf : gA k es 0 = some r) :
  (∀ em, (Instr.checkKey em 10000 t k).run P w = .ok () w) /\ ((r = none /\ (Instr.findKey t k l).run P w = .ok none w) \/ ∃ (jx : Nat) (e : MapEntry) (A : AV), r = some (0 + jx, A) /\ (Instr.findKey t k l).run P w = .ok (some (0 + jx, e.val)) w /\ l[jx]? = some e /\ es[jx]? = some (e.key, A) /\ e.born = 0 + jx /\ Rv w mu Z A e.val /\ Instr.sameBits 10000 e.key k = true) := by
 have simple : ∀ d, P.underlying t = some d -> IsKey d k -> _ := fun d hd hkd => by
  refine And.intro (a := ∀ em, (Instr.checkKey em 10000 t k).run P w = .ok () w) (b := (r = none /\ (Instr.findKey t k l).run P w = .ok none w) \/ ∃ (jx : Nat) (e : MapEntry) (A : AV), r = some (0 + jx, A) /\ (Instr.findKey t k l).run P w = .ok (some (0 + jx, e.val)) w /\ l[jx]? = some e /\ es[jx]? = some (e.key, A) /\ e.born = 0 + jx /\ Rv w mu Z A e.val /\ Instr.sameBits 10000 e.key k = true) (fun em => Go.MapKept.run_checkKey hd hkd em 9999) ?_
  rcases pL hkd es l 0 0 _ h hf with ⟨e1, e2⟩ | ⟨jx, en, A2, e1, e2, e3, e4, e5, e6, e7⟩
  · exact .inl ⟨e1, Go.MapKept.run_findKey hd e2⟩
  · exact .inr ⟨jx, en, A2, e1, Go.MapKept.run_findKey hd e2, e3, e4, e5, e6, e7⟩
 unfold dV at hk
 split at hk
 · rename_i k1 k2 n hu; exact simple _ hu (IntKind.ko hk).symm
 · rename_i b hu; exact simple _ hu trivial
 · rename_i q1 a hu
   refine ⟨fun em => vE hk em w, ?_⟩
   have hw : (Instr.findKey t (.agg a) l).run P w = (Instr.findAsking t (.agg a) l).run P w := by
    cases l with
    | nil => simp [Instr.findKey, run_underlying hu, Instr.findNow, Instr.findAsking]
    | cons e l =>
     unfold jG at hk
     split at hk
     · rename_i n e' hu'; simp [Instr.findKey, run_underlying hu', Instr.findNow, Instr.sameNow]
     · rename_i fs hu'; simp [Instr.findKey, run_underlying hu', Instr.findNow, Instr.sameNow]
     · cases hk
   rw [hw]
   exact nu hk es l 0 0 _ h hf
 · cases hk
theorem RvM.len {mu : Nat -> Prop} : ∀ (es : List (Value × AV)) (l : List MapEntry) (j : Nat), RvM w mu Z j es l -> l.length = es.length
 | [], _, _, h => by cases h; rfl
 | (k, A) :: es, _, j, h => by obtain ⟨e, l', rfl, _, _, _, h4⟩ := h; simp [RvM.len es l' _ h4]
theorem RvM.get {mu : Nat -> Prop} : ∀ (es : List (Value × AV)) (l : List MapEntry) (j i : Nat) (k : Value) (A : AV), RvM w mu Z j es l -> es[i]? = some (k, A) -> ∃ e, l[i]? = some e /\ e.key = k /\ e.born = j + i /\ Rv w mu Z A e.val
 | [], _, _, i, k, A, _, h => by simp at h
 | (k', A') :: es, _, j, i, k, A, h, hi => by
  obtain ⟨e, l', rfl, h2, h0, h3, h4⟩ := h
  cases i with
  | zero => simp at hi; obtain ⟨rfl, rfl⟩ := hi; exact ⟨e, rfl, h2, h0, h3⟩
  | succ i =>
   obtain ⟨e', g1, g2, g3, g4⟩ := RvM.get es l' (j + 1) i k A h4 (by simpa using hi)
   exact ⟨e', by simpa using g1, g2, by omega, g4⟩
theorem RvM.set {mu : Nat -> Prop} {k : Value} {A : AV} {v : Value} (hA : Rv w mu Z A v) : ∀ (es : List (Value × AV)) (l : List MapEntry) (j i : Nat), RvM w mu Z j es l -> RvM w mu Z j (es.set i (k, A)) (l.modify i fun e => { e with key := k, val := v })
 | [], _, _, i, h => by cases h; cases i <;> simp [RvM]
 | (k', A') :: es, _, j, i, h => by
  obtain ⟨e, l', rfl, h2, h0, h3, h4⟩ := h
  cases i with
  | zero => exact ⟨_, l', rfl, rfl, h0, hA, h4⟩
  | succ i => exact ⟨e, _, rfl, h2, h0, h3, RvM.set hA es l' (j + 1) i h4⟩
theorem RvM.snoc {mu : Nat -> Prop} {k : Value} {A : AV} {v : Value} (hA : Rv w mu Z A v) : ∀ (es : List (Value × AV)) (l : List MapEntry) (j : Nat), RvM w mu Z j es l -> RvM w mu Z j (es ++ [(k, A)]) (l ++ [{ key := k, val := v, born := j + es.length }])
 | [], _, j, h => by cases h; exact ⟨_, [], rfl, rfl, rfl, hA, rfl⟩
 | (k', A') :: es, _, j, h => by
  obtain ⟨e, l', rfl, h2, h0, h3, h4⟩ := h
  have := RvM.snoc (k := k) hA es l' (j + 1) h4
  rw [show j + 1 + es.length = j + ((k', A') :: es).length by simp; omega] at this
  exact ⟨e, _, rfl, h2, h0, h3, this⟩
theorem jk (hI : Inv out B w Z H) {x : AV} {v : Value} {b : Nat} {es : List (Value × AV)} (hx : Rv w (aH out Z H) Z x v) (h : fO H x = some (b, es)) :
  H[b]? = some (.map es) /\ ∃ (p : PB) (a : Array MapEntry), v = .map (some p.blk) /\ Z[b]? = some (some p) /\ w.heap[p.blk]? = some (.map a a.size) /\ RvM w (aH out Z H) Z 0 es a.toList := by
 unfold fO at h
 split at h
 · rename_i b'
   split at h
   · rename_i es' hb
     cases h
     obtain ⟨p, hp, rfl⟩ := hx
     obtain ⟨a, h1, h2⟩ := hI.ok _ _ p hb hp
     exact ⟨hb, p, a, rfl, hp, h1, h2⟩
   · cases h
 · cases h
theorem mG {e : TypeId} {z : AV} (h : oD P e = some z) : ∃ zv, (∀ w, (zeroValue e).run P w = .ok zv w) /\ ∀ (w : World) (mu : Nat -> Prop) (Z : List (Option PB)), Rv w mu Z z zv := by
 unfold oD at h
 split at h
 · rename_i i hi
   split at h
   · rename_i a ha
     cases h
     exact ⟨.agg a, fun w => by simp [zeroValue, typeInfo, hi, ha], fun w mu Z => ⟨a, rfl, dW _⟩⟩
   · rename_i v _ hv
     cases h
     exact ⟨v, fun w => by simp [zeroValue, typeInfo, hi, hv], fun w mu Z => rfl⟩
   · cases h
 · cases h
theorem rQ (hI : Inv out B w Z H) {t : TypeId} {x ix : AV} {v vi : Value} {ok : Bool} {A : AV} (hx : Rv w (aH out Z H) Z x v) (hi : Rv w (aH out Z H) Z ix vi) (h : dj P H t x ix ok = some A) :
  ∃ u, (Instr.lookup t v vi ok).run P w = .ok u w /\ Rv w (aH out Z H) Z A u := by
 unfold dj at h
 split at h
 · rename_i kt e b es k hu hm hk0
   obtain ⟨_, p, a, rfl, hp, hb, hr⟩ := jk hI hx hm
   obtain rfl : vi = k := fw ix vi k hi hk0
   have tup2 : ∀ {A' : AV} {u : Value} {c : Bool}, Rv w (aH out Z H) Z A' u -> Rv w (aH out Z H) Z (.tup [A', .at (.bool c)]) (.tuple #[u, .bool c]) := fun h => ⟨_, rfl, _, _, rfl, h, _, _, rfl, rfl, rfl⟩
   split at h
   · rename_i z i A' hk hz hf
     obtain ⟨hck, hfs⟩ := gz hk hr hf
     rcases hfs with ⟨e1, _⟩ | ⟨jx, en, A2, e1, e2, _, _, _, e6, _⟩
     · cases e1
     · cases e1
       have run : ∀ o, (Instr.lookup t (.map (some p.blk)) vi o).run P w = .ok (if o then .tuple #[en.val, .bool true] else en.val) w := by
        intro o
        simp only [Instr.lookup, Sem.run_bind, run_underlying hu, Result.andThen_ok, Go.MapKept.run_getObj_map hb, Sem.run_pure, hck, e2]
       cases h
       refine ⟨_, run ok, ?_⟩
       cases ok
       · exact e6
       · exact tup2 e6
   · rename_i z hk hz hf
     obtain ⟨hck, hfs⟩ := gz hk hr hf
     obtain ⟨zv, hz1, hz2⟩ := mG hz
     rcases hfs with ⟨_, e2⟩ | ⟨jx, en, A2, e1, _⟩
     · have run : ∀ o, (Instr.lookup t (.map (some p.blk)) vi o).run P w = .ok (if o then .tuple #[zv, .bool false] else zv) w := by
        intro o
        simp only [Instr.lookup, Sem.run_bind, run_underlying hu, Result.andThen_ok, Go.MapKept.run_getObj_map hb, Sem.run_pure, hck, e2, hz1]
       cases h
       refine ⟨_, run ok, ?_⟩
       cases ok
       · exact hz2 _ _ _
       · exact tup2 (hz2 _ _ _)
     · cases e1
   · cases h
 · cases h
theorem toList_modify (a : Array MapEntry) (i : Nat) (f : MapEntry -> MapEntry) : (a.modify i f).toList = a.toList.modify i f := by simp
theorem oK (hI : Inv out B w Z H) {b : Nat} {es es' : List (Value × AV)} {p : PB} {a a' : Array MapEntry} (hH : H[b]? = some (.map es)) (hp : Z[b]? = some (some p)) (hb : w.heap[p.blk]? = some (.map a a.size))
  (hy : ∀ (w' : World) (mu' : Nat -> Prop), (∀ A v, Rv w (aH out Z H) Z A v -> Rv w' mu' Z A v) -> RvM w' mu' Z 0 es' a'.toList) :
  ∃ w', w' = { w with heap := w.heap.setIfInBounds p.blk (.map a' a'.size) } /\ Ext B w w' (aH out Z H) (aH out Z (aO H [(b, .map es')])) Z Z /\ Inv out B w' Z (aO H [(b, .map es')]) := by
 have hu : aO H [(b, .map es')] = H.set b (.map es') := by simp [aO, upd, aE hH]
 rw [hu]
 refine ⟨_, rfl, ?_⟩
 obtain ⟨g1, g2⟩ := heap_set (o' := .map a' a'.size) hb
 exact hI.kO hH hp rfl (.map es') (by simp) (fun c hc => g2 c hc) rfl rfl rfl (fun _ => Nat.le_refl _) (fun hE => ⟨a', g1, hy _ _ (fun A v h => Rv.ext hE A v h)⟩)
theorem RvM.of {w' : World} {mu mu' : Nat -> Prop} (h : ∀ A v, Rv w mu Z A v -> Rv w' mu' Z A v) : ∀ (i : Nat) (es : List (Value × AV)) (l : List MapEntry), RvM w mu Z i es l -> RvM w' mu' Z i es l
 | _, [], _, hv => hv
 | i, (k, A) :: es, l, hv => by
  obtain ⟨e, l', h1, h2, h0, h3, h4⟩ := hv
  exact ⟨e, l', h1, h2, h0, h _ _ h3, RvM.of h (i + 1) es l' h4⟩
theorem stays {old new : Value} (h : Instr.sameBits 10000 old new = true) (w : World) : (Instr.keyThatStays old new).run P w = .ok new w := by simp [Instr.keyThatStays, h]
theorem mh (hI : Inv out B w Z H) {t : TypeId} {m k x : AV} {vm vk vx : Value} {r : bc} (hm : Rv w (aH out Z H) Z m vm) (hk : Rv w (aH out Z H) Z k vk) (hx : Rv w (aH out Z H) Z x vx) (h : fA P H t m k x = some r) :
  bL P out B w Z H (do Instr.mapUpdate t vm vk vx; pure .skip) r := by
 unfold fA at h
 split at h
 · rename_i kt e b es k' hu hma hk0
   obtain ⟨hH, p, a, rfl, hp, hb, hr⟩ := jk hI hm hma
   obtain rfl : vk = k' := fw k vk k' hk hk0
   split at h
   · rename_i i A hk hf
     cases h
     obtain ⟨hck, hfs⟩ := gz hk hr hf
     rcases hfs with ⟨e1, _⟩ | ⟨jx, en, A2, e1, e2, e3, e4, e5, e6, e7⟩
     · cases e1
     · cases e1
       obtain ⟨w', rfl, hE, hI'⟩ := oK hI (es' := es.set (0 + jx) (vk, x)) (a' := a.modify (0 + jx) fun e => { e with key := vk, val := vx }) hH hp hb (fun w' mu' hext => by
        rw [toList_modify]; exact RvM.set (hext _ _ hx) es a.toList 0 _ (RvM.of hext 0 es _ hr))
       have hk3 : (((a[0 + jx]?).map (·.key)).getD vk) = en.key := by rw [<- Array.getElem?_toList, Nat.zero_add, e3]; rfl
       refine ⟨.skip, undef, _, Z, ?_, .inr ⟨rfl, rfl⟩, hE, hI', trivial, fun _ _ => rfl⟩
       simp only [Instr.mapUpdate, Sem.run_bind, run_underlying hu, Result.andThen_ok, Go.MapKept.run_getObj_map hb, hck, e2, hk3, stays e7]
       simp [Go.MapKept.run_setObj_map _ hb]
   · rename_i hk hf
     cases h
     obtain ⟨hck, hfs⟩ := gz hk hr hf
     rcases hfs with ⟨_, e2⟩ | ⟨jx, en, A2, e1, _⟩
     · have hl := RvM.len es a.toList 0 hr
       have hl : a.size = es.length := by simpa using hl
       obtain ⟨w', rfl, hE, hI'⟩ := oK hI (es' := es ++ [(vk, x)]) (a' := a.push { key := vk, val := vx, born := a.size }) hH hp hb (fun w' mu' hext => by
        have := RvM.snoc (k := vk) (hext _ _ hx) es a.toList 0 (RvM.of hext 0 es _ hr)
        rw [Nat.zero_add, <- hl] at this
        simpa using this)
       refine ⟨.skip, undef, _, Z, ?_, .inr ⟨rfl, rfl⟩, hE, hI', trivial, fun _ _ => rfl⟩
       simp only [Instr.mapUpdate, Sem.run_bind, run_underlying hu, Result.andThen_ok, Go.MapKept.run_getObj_map hb, hck, e2]
       simp [Go.MapKept.run_setObj_map _ hb]
     · cases e1
   · cases h
 · cases h
theorem mV {A : AV} {w' : World} {mu : Nat -> Prop} {u : Value} {i : Nat} (h : Rv w' mu Z A u) : Rv w' mu Z (.tup [A, .at (.int .i64 i)]) (.tuple #[u, goInt i]) := ⟨_, rfl, _, _, rfl, h, _, _, rfl, rfl, rfl⟩
theorem rT (hI : Inv out B w Z H) {t : TypeId} {m k : AV} {vm vk : Value} {r : bc} (hm : Rv w (aH out Z H) Z m vm) (hk : Rv w (aH out Z H) Z k vk) (h : eR P H t m k = some r) :
  bL P out B w Z H (do pure (.value (<- Instr.mapEntry t vm vk))) r := by
 unfold eR at h
 split at h
 · rename_i kt e b es k' hu hma hk0
   obtain ⟨hH, p, a, rfl, hp, hb, hr⟩ := jk hI hm hma
   obtain rfl : vk = k' := fw k vk k' hk hk0
   have hl := RvM.len es a.toList 0 hr
   have hl : a.size = es.length := by simpa using hl
   split at h
   · rename_i z i A hk hz hf
     cases h
     obtain ⟨hck, hfs⟩ := gz hk hr hf
     rcases hfs with ⟨e1, _⟩ | ⟨jx, en, A2, e1, e2, e3, e4, e5, e6, e7⟩
     · cases e1
     · cases e1
       have hset : a.modify (0 + jx) (fun e => { e with key := vk }) = a.modify (0 + jx) fun e => { e with key := vk, val := en.val } := by
        apply Array.ext (by simp)
        intro i h1 h2
        rw [Array.getElem_modify, Array.getElem_modify]
        split
        · rename_i hi
          have : a[i]'(by simpa using h1) = en := by
           have : a[i]? = some en := by rw [<- hi, <- Array.getElem?_toList, Nat.zero_add]; exact e3
           exact (Array.getElem?_eq_some_iff.1 this).2
          rw [this]
        · rfl
       obtain ⟨w', rfl, hE, hI'⟩ := oK hI (es' := es.set (0 + jx) (vk, A)) (a' := a.modify (0 + jx) fun e => { e with key := vk, val := en.val }) hH hp hb (fun w' mu' hext => by
        rw [toList_modify]; exact RvM.set (hext _ _ e6) es a.toList 0 _ (RvM.of hext 0 es _ hr))
       have hj : a[0 + jx]? = some en := by rw [<- Array.getElem?_toList, Nat.zero_add, e3]
       refine ⟨.value (.tuple #[en.val, goInt ((0 + jx : Nat) : Int)]), _, _, Z, ?_, .inl rfl, hE, hI', mV (Rv.ext hE _ _ e6), fun _ _ => rfl⟩
       simp only [Instr.mapEntry, Sem.run_bind, run_underlying hu, Result.andThen_ok, Go.MapKept.run_getObj_map hb, hck, e2, hj, Option.map_some, Option.getD_some, stays e7, hset, e5]
       simp [Go.MapKept.run_setObj_map _ hb]
   · rename_i z hk hz hf
     cases h
     obtain ⟨hck, hfs⟩ := gz hk hr hf
     obtain ⟨zv, hz1, hz2⟩ := mG hz
     rcases hfs with ⟨_, e2⟩ | ⟨jx, en, A2, e1, _⟩
     · obtain ⟨w', rfl, hE, hI'⟩ := oK hI (es' := es ++ [(vk, z)]) (a' := a.push { key := vk, val := zv, born := a.size }) hH hp hb (fun w' mu' hext => by
        have := RvM.snoc (k := vk) (hz2 w' mu' Z) es a.toList 0 (RvM.of hext 0 es _ hr)
        rw [Nat.zero_add, <- hl] at this
        simpa using this)
       refine ⟨.value (.tuple #[zv, goInt ((es.length : Nat) : Int)]), _, _, Z, ?_, .inl rfl, hE, hI', mV (hz2 _ _ _), fun _ _ => rfl⟩
       simp only [Instr.mapEntry, Sem.run_bind, run_underlying hu, Result.andThen_ok, Go.MapKept.run_getObj_map hb, hck, e2, hz1]
       simp [Go.MapKept.run_setObj_map _ hb, hl]
     · cases e1
   · cases h
 · cases h
theorem om (hI : Inv out B w Z H) {x : AV} {v : Value} {b d ez : Nat} {l : List (Value × RC)} (hx : Rv w (aH out Z H) Z x v) (h : jS H x = some (b, d, ez, l)) :
  H[b]? = some (.mapr d ez l) /\ ∃ (p : PB) (a : Array MapEntry), v = .map (some p.blk) /\ Z[b]? = some (some p) /\ w.heap[p.blk]? = some (.map a a.size) /\ RvM w (aH out Z H) Z 0 (l.map rcE) a.toList /\ pZ w (aH out Z H) p.subs l a.toList /\ lK (l.map (·.2)) p := by
 unfold jS at h
 split at h
 · rename_i b'
   split at h
   · rename_i d' ez' l' hb
     cases h
     obtain ⟨p, hp, rfl⟩ := hx
     obtain ⟨a, h1, h2, h3, h4⟩ := hI.ok _ _ p hb hp
     exact ⟨hb, p, a, rfl, hp, h1, h2, h3, h4⟩
   · cases h
 · cases h
theorem uo {l : List (Value × RC)} {i : Nat} {q : Value × AV} (h : rK l i = some q) : l[i]? = some (q.1, .av q.2) := by
 unfold rK at h
 split at h
 · rename_i k A e; cases h; exact e
 · cases h
theorem qD (hI : Inv out B w Z H) {b d ez : Nat} {l l' : List (Value × RC)} {p : PB} {a a' : Array MapEntry} (hH : H[b]? = some (.mapr d ez l)) (hp : Z[b]? = some (some p)) (hb : w.heap[p.blk]? = some (.map a a.size))
  (hr : pZ w (aH out Z H) p.subs l a.toList) (hsep : lK (l.map (·.2)) p)
  (hrow : ∀ (k : Nat) (key : Value) (len es : Nat) (cs : List AV), l'[k]? = some (key, .row len es cs) -> l[k]? = some (key, .row len es cs) /\ a'.toList[k]? = a.toList[k]?)
  (hy : ∀ (w' : World) (mu' : Nat -> Prop), (∀ A v, Rv w (aH out Z H) Z A v -> Rv w' mu' Z A v) -> RvM w' mu' Z 0 (l'.map rcE) a'.toList) :
  ∃ w', w' = { w with heap := w.heap.setIfInBounds p.blk (.map a' a'.size) } /\ Ext B w w' (aH out Z H) (aH out Z (aO H [(b, .mapr d ez l')])) Z Z /\ Inv out B w' Z (aO H [(b, .mapr d ez l')]) := by
 have hu : aO H [(b, .mapr d ez l')] = H.set b (.mapr d ez l') := by simp [aO, upd, aE hH]
 rw [hu]
 refine ⟨_, rfl, ?_⟩
 obtain ⟨g1, g2⟩ := heap_set (o' := .map a' a'.size) hb
 have row2 : ∀ {k len es : Nat} {cs : List AV}, (l'.map (·.2))[k]? = some (.row len es cs) -> (l.map (·.2))[k]? = some (.row len es cs) := by
  intro k len es cs h
  rw [List.getElem?_map] at h
  cases hk : l'[k]? with
  | none => rw [hk] at h; cases h
  | some q =>
   obtain ⟨key, x⟩ := q
   rw [hk] at h
   simp only [Option.map_some, Option.some.injEq] at h
   subst h
   rw [List.getElem?_map, (hrow k key len es cs hk).1]; rfl
 exact hI.kO hH hp rfl (.mapr d ez l') (by simp) (fun c hc => g2 c hc) rfl rfl rfl (fun _ => Nat.le_refl _) (fun hE => ⟨a', g1, hy _ _ (fun A v h => Rv.ext hE A v h), fun k key len es cs hk => by
   obtain ⟨h1, h2⟩ := hrow k key len es cs hk
   obtain ⟨e, e1, e2⟩ := hr k key len es cs h1
   exact ⟨e, h2.trans e1, jl.ext hE (fun q hq => g2 _ (hsep.1 k len es cs q (by rw [List.getElem?_map, h1]; rfl) hq)) e2⟩,
   fun k len es cs q e1 e2 => hsep.1 k len es cs q (row2 e1) e2, fun k k' len es len' es' cs cs' q q' hkk e1 e2 e3 e4 => hsep.2 k k' len es len' es' cs cs' q q' hkk (row2 e1) (row2 e2) e3 e4⟩)
  (by
   rintro c (h | ⟨k, key, len, es, cs, q, h1, h2, h3⟩)
   · exact .inl h
   · exact .inr ⟨k, key, len, es, cs, q, (hrow k key len es cs h1).1, h2, h3⟩)
theorem ma (l : List (Value × RC)) (i : Nat) (k : Value) (A : AV) : (l.set i (k, .av A)).map rcE = (l.map rcE).set i (k, A) := by rw [List.map_set]; rfl
theorem zG {l : List (Value × RC)} {i : Nat} {k : Value} {A : AV} (h : l[i]? = some (k, .av A)) : (l.map rcE)[i]? = some (k, A) := by rw [List.getElem?_map, h]; rfl
theorem rj (hI : Inv out B w Z H) {t : TypeId} {m k : AV} {vm vk : Value} {r : bc} (hm : Rv w (aH out Z H) Z m vm) (hk : Rv w (aH out Z H) Z k vk) (h : fy P H t m k = some r) :
  bL P out B w Z H (do pure (.value (<- Instr.mapEntry t vm vk))) r := by
 unfold fy at h
 split at h
 · rename_i kt e b d ez l k' hu hma hk0
   obtain ⟨hH, p, a, rfl, hp, hb, hr, hrow, hsep⟩ := om hI hm hma
   obtain rfl : vk = k' := fw k vk k' hk hk0
   have hl := RvM.len _ a.toList 0 hr
   have hl : a.size = l.length := by simpa using hl
   split at h
   · rename_i z i A hk hz hf
     split at h
     · rename_i ky A0 hav
       cases h
       have hav := uo hav
       obtain ⟨hck, hfs⟩ := gz hk hr hf
       rcases hfs with ⟨e1, _⟩ | ⟨jx, en, A2, e1, e2, e3, e4, e5, e6, e7⟩
       · cases e1
       · cases e1
         have hav' : l[jx]? = some (ky, .av A0) := by simpa using hav
         have e4' : (l.map rcE)[jx]? = some (ky, A0) := zG hav'
         rw [e4'] at e4; cases e4
         have hset : a.modify (0 + jx) (fun e => { e with key := vk }) = a.modify (0 + jx) fun e => { e with key := vk, val := en.val } := by
          apply Array.ext (by simp)
          intro i h1 h2
          rw [Array.getElem_modify, Array.getElem_modify]
          split
          · rename_i hi
            have : a[i]'(by simpa using h1) = en := by
             have : a[i]? = some en := by rw [<- hi, <- Array.getElem?_toList, Nat.zero_add]; exact e3
             exact (Array.getElem?_eq_some_iff.1 this).2
            rw [this]
          · rfl
         obtain ⟨w', rfl, hE, hI'⟩ := qD hI (l' := l.set (0 + jx) (vk, .av A)) (a' := a.modify (0 + jx) fun e => { e with key := vk, val := en.val }) hH hp hb hrow hsep (fun k key len es cs g => by
          rcases br g with ⟨_, e⟩ | ⟨hne, g⟩
          · cases e
          · refine ⟨g, ?_⟩
            rw [toList_modify, List.getElem?_modify]; simp only [if_neg hne]; cases a.toList[k]? <;> rfl) (fun w' mu' hext => by
          rw [toList_modify, ma]; exact RvM.set (hext _ _ e6) _ a.toList 0 _ (RvM.of hext 0 _ _ hr))
         have hj : a[0 + jx]? = some en := by rw [<- Array.getElem?_toList, Nat.zero_add, e3]
         refine ⟨.value (.tuple #[en.val, goInt ((0 + jx : Nat) : Int)]), _, _, Z, ?_, .inl rfl, hE, hI', mV (Rv.ext hE _ _ e6), fun _ _ => rfl⟩
         simp only [Instr.mapEntry, Sem.run_bind, run_underlying hu, Result.andThen_ok, Go.MapKept.run_getObj_map hb, hck, e2, hj, Option.map_some, Option.getD_some, stays e7, hset, e5]
         simp [Go.MapKept.run_setObj_map _ hb]
     · cases h
   · rename_i hk hz hf
     cases h
     obtain ⟨hck, hfs⟩ := gz hk hr hf
     obtain ⟨zv, hz1, hz2⟩ := mG hz
     obtain rfl : zv = .slice none 0 0 := hz2 w (fun _ => False) []
     rcases hfs with ⟨_, e2⟩ | ⟨jx, en, A2, e1, _⟩
     · obtain ⟨w', rfl, hE, hI'⟩ := qD hI (l' := l ++ [(vk, .av (.hs d 0 0 ez))]) (a' := a.push { key := vk, val := .slice none 0 0, born := a.size }) hH hp hb hrow hsep (fun k key len es cs g => by
         by_cases hkl : k < l.length
         · rw [List.getElem?_append_left hkl] at g
           exact ⟨g, by rw [Array.toList_push, List.getElem?_append_left (by simp; omega)]⟩
         · rw [List.getElem?_append_right (by omega)] at g
           have : k - l.length = 0 := by have := aE g; simpa using this
           rw [this] at g; cases g) (fun w' mu' hext => by
        have := RvM.snoc (w := w') (mu := mu') (Z := Z) (k := vk) (A := .hs d 0 0 ez) (v := .slice none 0 0) (.inl ⟨rfl, rfl⟩) _ a.toList 0 (RvM.of hext 0 _ _ hr)
        rw [Nat.zero_add, List.length_map, <- hl] at this
        simpa [rcE] using this)
       refine ⟨.value (.tuple #[.slice none 0 0, goInt ((l.length : Nat) : Int)]), _, _, Z, ?_, .inl rfl, hE, hI', mV (.inl ⟨rfl, rfl⟩), fun _ _ => rfl⟩
       simp only [Instr.mapEntry, Sem.run_bind, run_underlying hu, Result.andThen_ok, Go.MapKept.run_getObj_map hb, hck, e2, hz1]
       simp [Go.MapKept.run_setObj_map _ hb, hl]
     · cases e1
   · cases h
 · cases h
theorem nv {k : IntKind} {n : Int} : (asInt (.int k n)).run P w = .ok n w := by simp [asInt, asIntOf]
theorem RvM.born {mu : Nat -> Prop} : ∀ (es : List (Value × AV)) (l : List MapEntry) (j i : Nat), RvM w mu Z j es l -> i < es.length -> l.findIdx? (fun e => (e.born : Int) == ((j + i : Nat) : Int)) = some i
 | [], _, _, i, _, hi => by simp at hi
 | (k', A') :: es, _, j, i, h, hi => by
  obtain ⟨e, l', rfl, h2, h0, h3, h4⟩ := h
  rw [List.findIdx?_cons]
  cases i with
  | zero => simp [h0]
  | succ i =>
   have := RvM.born es l' (j + 1) i h4 (by simpa using hi)
   rw [show j + 1 + i = j + (i + 1) by omega] at this
   rw [this]
   have : ((e.born : Int) == ((j + (i + 1) : Nat) : Int)) = false := by rw [h0]; simp; omega
   rw [this]; rfl
theorem nJ (hI : Inv out B w Z H) {t : TypeId} {m s x : AV} {vm vs vx : Value} {r : bc} (hm : Rv w (aH out Z H) Z m vm) (hs : Rv w (aH out Z H) Z s vs) (hx : Rv w (aH out Z H) Z x vx) (h : dv H m s x = some r) :
  bL P out B w Z H (do Instr.entryStore t vm vs vx; pure .skip) r := by
 unfold dv at h
 split at h
 · rename_i b es i hma hi
   obtain ⟨hH, p, a, rfl, hp, hb, hr⟩ := jk hI hm hma
   split at h
   · rename_i k A h0 hg
     cases h
     have h0 : 0 <= i := by simpa using h0
     obtain ⟨sk, rfl⟩ := fM hs hi
     obtain ⟨n, rfl⟩ : ∃ n : Nat, i = n := ⟨i.toNat, by omega⟩
     rw [Int.toNat_natCast] at hg ⊢
     obtain ⟨en, g1, g2, g3, g4⟩ := RvM.get es a.toList 0 n k A hr hg
     have hlt : n < es.length := (List.getElem?_eq_some_iff.1 hg).1
     have hb2 := RvM.born es a.toList 0 n hr hlt
     have hb3 : a.findIdx? (fun e => (e.born : Int) == (n : Int)) = some n := by
      have e : a = a.toList.toArray := rfl
      rw [e, List.findIdx?_toArray]; simpa using hb2
     have hset : a.modify n (fun e => { e with val := vx }) = a.modify n fun e => { e with key := k, val := vx } := by
      apply Array.ext (by simp)
      intro i h1 h2
      rw [Array.getElem_modify, Array.getElem_modify]
      split
      · rename_i hi
        have : a[i]'(by simpa using h1) = en := by
         have : a[i]? = some en := by rw [<- hi, <- Array.getElem?_toList]; exact g1
         exact (Array.getElem?_eq_some_iff.1 this).2
        rw [this, <- g2]
      · rfl
     obtain ⟨w', rfl, hE, hI'⟩ := oK hI (es' := es.set n (k, x)) (a' := a.modify n fun e => { e with key := k, val := vx }) hH hp hb (fun w' mu' hext => by
      rw [toList_modify]; exact RvM.set (hext _ _ hx) es a.toList 0 _ (RvM.of hext 0 es _ hr))
     refine ⟨.skip, undef, _, Z, ?_, .inr ⟨rfl, rfl⟩, hE, hI', trivial, fun _ _ => rfl⟩
     simp only [Instr.entryStore, Sem.run_bind, Go.MapKept.run_getObj_map hb, Result.andThen_ok, nv, hb3, hset]
     simp [Go.MapKept.run_setObj_map _ hb]
   · cases h
 · cases h
theorem nj (hI : Inv out B w Z H) {t : TypeId} {m s x : AV} {vm vs vx : Value} {r : bc} (hm : Rv w (aH out Z H) Z m vm) (hs : Rv w (aH out Z H) Z s vs) (hx : Rv w (aH out Z H) Z x vx) (h : dr H m s x = some r) :
  bL P out B w Z H (do Instr.entryStore t vm vs vx; pure .skip) r := by
 unfold dr at h
 split at h
 · rename_i b d ez l i hma hi
   obtain ⟨hH, p, a, rfl, hp, hb, hr, hrow, hsep⟩ := om hI hm hma
   split at h
   · rename_i k A h0 hg
     cases h
     have hg := uo hg
     have h0 : 0 <= i := by simpa using h0
     obtain ⟨sk, rfl⟩ := fM hs hi
     obtain ⟨n, rfl⟩ : ∃ n : Nat, i = n := ⟨i.toNat, by omega⟩
     rw [Int.toNat_natCast] at hg ⊢
     obtain ⟨en, g1, g2, g3, g4⟩ := RvM.get _ a.toList 0 n k A hr (zG hg)
     have hlt : n < l.length := (List.getElem?_eq_some_iff.1 hg).1
     have hb2 := RvM.born _ a.toList 0 n hr (by simpa using hlt)
     have hb3 : a.findIdx? (fun e => (e.born : Int) == (n : Int)) = some n := by
      have e : a = a.toList.toArray := rfl
      rw [e, List.findIdx?_toArray]; simpa using hb2
     have hset : a.modify n (fun e => { e with val := vx }) = a.modify n fun e => { e with key := k, val := vx } := by
      apply Array.ext (by simp)
      intro i h1 h2
      rw [Array.getElem_modify, Array.getElem_modify]
      split
      · rename_i hi
        have : a[i]'(by simpa using h1) = en := by
         have : a[i]? = some en := by rw [<- hi, <- Array.getElem?_toList]; exact g1
         exact (Array.getElem?_eq_some_iff.1 this).2
        rw [this, <- g2]
      · rfl
     obtain ⟨w', rfl, hE, hI'⟩ := qD hI (l' := l.set n (k, .av x)) (a' := a.modify n fun e => { e with key := k, val := vx }) hH hp hb hrow hsep (fun k' key len es cs g => by
      rcases br g with ⟨_, e⟩ | ⟨hne, g⟩
      · cases e
      · refine ⟨g, ?_⟩
        rw [toList_modify, List.getElem?_modify]; simp only [if_neg hne]; cases a.toList[k']? <;> rfl) (fun w' mu' hext => by
      rw [toList_modify, ma]; exact RvM.set (hext _ _ hx) _ a.toList 0 _ (RvM.of hext 0 _ _ hr))
     refine ⟨.skip, undef, _, Z, ?_, .inr ⟨rfl, rfl⟩, hE, hI', trivial, fun _ _ => rfl⟩
     simp only [Instr.entryStore, Sem.run_bind, Go.MapKept.run_getObj_map hb, Result.andThen_ok, nv, hb3, hset]
     simp [Go.MapKept.run_setObj_map _ hb]
   · cases h
 · cases h
theorem sz {s : Sem Next} {a b : Option bc} {r : bc} (h : orE a b = some r) (ha : ∀ r, a = some r -> bL P out B w Z H s r) (hb : ∀ r, b = some r -> bL P out B w Z H s r) : bL P out B w Z H s r := by
 cases a with
 | none => exact hb r h
 | some q => exact ha r h
theorem ep (hI : Inv out B w Z H) {n : Nat} (hn : n <= H.length) (p : Option PB) (x : Blk) : ∀ j, (∀ b, (j, b) ∉ [(n, x)]) -> (upd Z n p)[j]? = Z[j]? := by
 intro j hj
 rw [er (by have := hI.len; omega), if_neg]
 rintro rfl
 exact hj x (by simp)
theorem qh (hI : Inv out B w Z H) {nid : Nat} (hn : nid <= H.length) (hf : ∀ q, Z[nid]? ≠ some (some q)) {t : TypeId} {r : Option AV} {vr : Option Value} {x : bc} (hr : match r, vr with | none, none => True | some r, some v => Rv w (aH out Z H) Z r v | _, _ => False) (h : kY P nid t r = some x) :
  bL P out B w Z H (do pure (.value (<- Instr.makeMap t vr))) x := by
 have key : (Instr.makeMap t vr).run P w = .ok (.map (some w.heap.size)) (w.alloc (.map #[] 0)) /\ x = .eff (.mp nid) [(nid, .map [])] := by
  unfold kY at h
  cases r with
  | none =>
   cases vr with
   | none => cases h; exact ⟨by simp [Instr.makeMap], rfl⟩
   | some _ => exact hr.elim
  | some r =>
   cases vr with
   | none => exact hr.elim
   | some v =>
    simp only at h hr
    split at h
    · rename_i q kt e hk hu
      cases h
      have := mr hr hk
      subst this
      exact ⟨by simp [Instr.makeMap, run_underlying hu, asInt, asIntOf], rfl⟩
    · cases h
 obtain ⟨hrun, rfl⟩ := key
 have hE := lg hI (.map #[] 0) (.map []) ⟨w.heap.size, 0, 0, fun _ => none⟩ rfl hn hf
 have hI' := hI.alloc (.map #[] 0) (.map []) ⟨w.heap.size, 0, 0, fun _ => none⟩ rfl hn hf ⟨#[], by show (w.heap.push _)[w.heap.size]? = _; simp, rfl⟩
 refine ⟨_, .map (some w.heap.size), _, _, by simp [hrun], .inl rfl, hE, hI', ⟨_, fe hI hn _, rfl⟩, ep hI hn _ _⟩
theorem Ag {mu : Nat -> Prop} (k : Value) : Rv w mu Z (Be k) k := by
 cases k <;> first | exact ⟨_, rfl, dW _⟩ | exact rfl
theorem rM (hI : Inv out B w Z H) {nid : Nat} (hn : nid <= H.length) (hf : ∀ q, Z[nid]? ≠ some (some q)) {t : TypeId} {m : AV} {vm : Value} {x : bc} (hm : Rv w (aH out Z H) Z m vm) (h : jE P H nid t m = some x) :
  bL P out B w Z H (do pure (.value (<- Instr.range t vm))) x := by
 unfold jE at h
 split at h
 · rename_i kt e b es hu hma
   cases h
   obtain ⟨hH, p, a, rfl, hp, hb, hr⟩ := jk hI hm hma
   have hl : a.size = es.length := by have := RvM.len es a.toList 0 hr; simpa using this
   have hne : b ≠ nid := fun e => hf p (by rw [<- e]; exact hp)
   have hlt : p.blk < w.heap.size := (hI.base b _ p hH hp rfl).2
   have hE := lg hI (.mapIter (some p.blk) a.size #[] a.size) (.iter b es.length []) ⟨w.heap.size, 0, 0, fun _ => none⟩ rfl hn hf
   have hI' := hI.alloc (.mapIter (some p.blk) a.size #[] a.size) (.iter b es.length []) ⟨w.heap.size, 0, 0, fun _ => none⟩ rfl hn hf ⟨rfl, p, by rw [er (by have := hI.len; omega), if_neg hne]; exact hp, by show (w.heap.push _)[w.heap.size]? = _; rw [<- hl]; simp⟩
   refine ⟨_, .pointer (some ⟨w.heap.size, 0, none⟩), _, _, ?_, .inl rfl, hE, hI', ⟨_, fe hI hn _, rfl⟩, ep hI hn _ _⟩
   simp only [Instr.range, Sem.run_bind, run_underlying hu, Result.andThen_ok, Go.MapKept.run_getObj_map hb, Sem.run_pure]
   rfl
 · cases h
theorem oc (hI : Inv out B w Z H) {x : AV} {v : Value} {r : bc} (hx : Rv w (aH out Z H) Z x v) (h : fD H x = some r) : bL P out B w Z H (do pure (.value (<- Instr.entry v))) r := by
 unfold fD at h
 split at h
 · rename_i m n seen hit
   unfold mz at hit
   split at hit
   · rename_i j
     split at hit
     · rename_i m' n' seen' hj
       cases hit
       obtain ⟨p, hp, rfl⟩ := hx
       obtain ⟨ho, q, hq, hh⟩ := hI.ok j _ p hj hp
       split at h
       · rename_i es hes
         obtain ⟨a, ha, hr⟩ := hI.ok m _ q hes hq
         have hl : a.size = es.length := by have := RvM.len es a.toList 0 hr; simpa using this
         split at h
         · rename_i i hn hlast
           split at h
           · rename_i k A hi
             cases h
             have hn : es.length = n := dcT hn
             obtain ⟨en, g1, g2, g3, g4⟩ := RvM.get es a.toList 0 i k A hr hi
             have hback : seen.toArray.back? = some i := by rw [<- hlast]; simp [Array.back?, List.getLast?_eq_getElem?]
             have hfind : a.find? (fun e => e.born == i) = some en := by
              have hlt : i < es.length := (List.getElem?_eq_some_iff.1 hi).1
              have hb2 := RvM.born es a.toList 0 i hr hlt
              rw [<- Array.find?_toList]
              have hb3 : a.toList.findIdx? (fun e => e.born == i) = some i := by
               rw [<- hb2]; congr 1; funext e; rw [Nat.zero_add, Bool.eq_iff_iff, beq_iff_eq, beq_iff_eq]; omega
              rw [List.find?_eq_some_iff_getElem]
              have h3 := List.findIdx?_eq_some_iff_getElem.1 hb3
              obtain ⟨h4, h5, h6⟩ := h3
              have he : a.toList[i] = en := (List.getElem?_eq_some_iff.1 g1).2
              refine ⟨by rw [<- he]; exact h5, i, h4, he, fun j hj => by simpa using h6 j hj⟩
             have hrun : (Instr.entry (.pointer (some ⟨p.blk, p.off + 0, none⟩))).run P w = .ok (.tuple #[en.key, en.val]) w := by
              rw [Nat.add_zero, ho]
              simp only [Instr.entry, getObj, Sem.run_bind, Sem.run, hh, ha, Result.andThen, hback, hl, hn, bne_self_eq_false, Bool.false_eq_true, if_false, hfind]
              rfl
             exact bL.value hrun ⟨_, rfl, _, _, rfl, by rw [g2]; exact Ag k, _, _, rfl, g4, rfl⟩
           · cases h
         · cases h
       · cases h
     · cases hit
   · cases hit
 · cases h
end
end Go.Eng


namespace Go.Eng
open Go Go.RowKit
variable [Dr]
section
variable {P : Program} {out : Nat -> Prop} {B : Nat -> Prop} {w : World} {Z : List (Option PB)} {H : List Blk}
theorem Inv.same {w' : World} (hI : Inv out B w Z H) (hh : w'.heap = w.heap) (ho : w'.os = w.os) (ht : w'.tape = w.tape) (hu : w'.output = w.output) (hd : Dr.d = true -> w.drawn <= w'.drawn) :
  Ext B w w' (aH out Z H) (aH out Z H) Z Z /\ Inv out B w' Z H := by
 have hE : Ext B w w' (aH out Z H) (aH out Z H) Z Z := ⟨fun _ _ => by rw [hh], by rw [hh]; exact Nat.le_refl _, fun b _ h => ⟨by rw [hh], h⟩, fun _ _ h => h, ho, ht, hu, hd⟩
 exact ⟨hE, hI.len, by rw [hh]; exact hI.bound, hI.out_lt, by rw [hh]; exact hI.baseO, fun i x p h1 h2 => cS.ext hE (fun _ _ => by rw [hh]) (hI.ok i x p h1 h2), hI.sepO⟩
theorem vo (hI : Inv out B w Z H) {nid : Nat} (hn : nid <= H.length) (hf : ∀ q, Z[nid]? ≠ some (some q)) {t : TypeId} {z : List AV} (hz : iu P t = some z) (h1 : z.all eC = true) :
  bL P out B w Z H (do pure (.value (<- Instr.alloc t true (.tuple #[])))) (.eff (.hp nid 0) [(nid, .own z)]) := by
 obtain ⟨zv, _, hi, hzv, hrun, rfl⟩ := kP hz w
 obtain ⟨hE, hI'⟩ := jj hI hn hf (zv.cells.toList.map .at) zv.cells t (dW _) (all_zero h1)
 refine ⟨_, .pointer (some ⟨w.heap.size, 0, none⟩), _, _, by simp [Instr.alloc, hrun, newVar, newRow], .inl rfl, hE, hI', ⟨_, fe hI hn _, rfl⟩, ep hI hn _ _⟩
theorem xV (hI : Inv out B w Z H) {nid : Nat} (hn : nid <= H.length) (hf : ∀ q, Z[nid]? ≠ some (some q)) {t : TypeId} {x : AV} {v : Value} (hx : Rv w (aH out Z H) Z x v) (h1 : (cellsOf x).all eC = true) :
  bL P out B w Z H (do pure (.value (<- Instr.box t v))) (.eff (.hp nid 0) [(nid, .own (cellsOf x))]) := by
 obtain ⟨g1, g2⟩ := je hx h1
 obtain ⟨hE, hI'⟩ := jj hI hn hf (cellsOf x) v.cells t g1 g2
 exact ⟨_, .pointer (some ⟨w.heap.size, 0, none⟩), _, _, by simp [Instr.box, newVar, newRow], .inl rfl, hE, hI', ⟨_, fe hI hn _, rfl⟩, ep hI hn _ _⟩
def BM (w : World) (mu : Nat -> Prop) (Z : List (Option PB)) (ρ : Operand -> AV) (ρc : Operand -> Value) (l : List (Nat × Operand)) : Prop :=
 RvL w mu Z ((l.map fun p => (p.1, ρ p.2)).map (·.2)) ((l.map fun p => (p.1, ρc p.2)).map (·.2))
theorem mY {ρ : Operand -> AV} {ρc : Operand -> Value} {mu : Nat -> Prop} (hρ : ∀ x, Rv w mu Z (ρ x) (ρc x)) : ∀ l : List (Nat × Operand), BM w mu Z ρ ρc l
 | [] => rfl
 | (_, x) :: l => ⟨_, _, rfl, hρ x, mY hρ l⟩
theorem oV {ρ : Operand -> AV} {ρc : Operand -> Value} {mu : Nat -> Prop} (hρ : ∀ x, Rv w mu Z (ρ x) (ρc x)) : ∀ l : List Operand, RvL w mu Z (l.map ρ) (l.map ρc)
 | [] => rfl
 | x :: l => ⟨_, _, rfl, hρ x, oV hρ l⟩
theorem mC {t : TypeId} {z : List AV} (h : iu P t = some z) : ∃ zv : Value, (∀ w, (zeroValue t).run P w = .ok zv w) /\ z = zv.cells.toList.map .at := by
 unfold iu at h
 split at h
 · rename_i i hi
   split at h
   · rename_i zv hz; cases h; exact ⟨zv, fun w => by simp [zeroValue, typeInfo, hi, hz], rfl⟩
   · cases h
 · cases h
theorem pG (hI : Inv out B w Z H) {nid : Nat} (hnid : nid <= H.length) (hf0 : ∀ q, Z[nid]? ≠ some (some q)) {ρ : Operand -> AV} {ρc : Operand -> Value} (hρ : ∀ x, Rv w (aH out Z H) Z (ρ x) (ρc x)) {t e : TypeId} {len n : Nat} {z cs : List AV} {parts : Array (Nat × Operand)}
  (hu : P.underlying t = some (.slice e)) (hn : dM P e = some n) (hz : iu P e = some z) (h1 : len * n <= 16777216) (h2 : z.length = n) (h3 : z.all eC = true)
  (hf : nw (fun i => some (i * n, n)) (cN z len) (parts.toList.map fun p => (p.1, ρ p.2)) = some cs) :
  bL P out B w Z H (do pure (.value (<- Instr.buildSlice t len (parts.map fun (i, x) => (i, ρc x))))) (.eff (.hs nid 0 len n) [(nid, .own cs)]) := by
 obtain ⟨zv, hrun, rfl⟩ := mC hz
 have hzs : zv.cells.size = n := by simpa using h2
 have hz1 := all_zero h3
 have hcells : ∀ z0 : Array Value, (if len * n = 0 then z0 = #[] else z0 = zv.cells) -> ((Array.range (len * n)).map (z0[· % z0.size]!)).toList = (List.replicate len zv.cells.toList).flatten := by
  intro z0 h0
  by_cases hl : len * n = 0
  · rw [if_pos hl] at h0; subst h0
    rw [hl]
    rcases Nat.mul_eq_zero.1 hl with e0 | e0
    · simp [e0]
    · have : zv.cells = #[] := by rw [<- Array.size_eq_zero_iff]; omega
      simp [this]
  · rw [if_neg hl] at h0; subst h0
    have hpos : 0 < zv.cells.size := by
     rw [hzs]; exact Nat.pos_of_ne_zero fun e0 => hl (by rw [e0]; simp)
    have := jI zv.cells len hpos
    rw [hzs] at this
    simpa [madeCells] using this
 have hparts : (parts.map fun p : Nat × Operand => (p.1, ρc p.2)).toList = parts.toList.map fun p => (p.1, ρc p.2) := by simp
 have fin : ∀ z0 : Array Value, ((Array.range (len * n)).map (z0[· % z0.size]!)).toList = (List.replicate len zv.cells.toList).flatten ->
   ∃ rv, Instr.fill (fun i => some (i * n, n)) ((Array.range (len * n)).map (z0[· % z0.size]!)) (parts.map fun p : Nat × Operand => (p.1, ρc p.2)).toList = some rv /\ RvL w (aH out Z H) Z cs rv.toList /\ (∀ v ∈ rv.toList, v.oneCell' = true) /\ rv.size = len * n := by
  intro z0 h0
  obtain ⟨rv, r1, r2, r3, r4⟩ := kB (w := w) (Z := Z) (mu := aH out Z H) (place := fun i => some (i * n, n)) (parts.toList.map fun p => (p.1, ρ p.2)) (parts.toList.map fun p => (p.1, ρc p.2)) (cN (zv.cells.toList.map .at) len)
   ((Array.range (len * n)).map (z0[· % z0.size]!)) cs (by simp) (mY hρ _) (by rw [h0]; exact mZ _ _) (by rw [h0]; exact ij hz1 _) hf
  exact ⟨rv, by rw [hparts]; exact r1, r2, r4, by rw [r3]; simp⟩
 have hle : ¬ 16777216 < len * n := by omega
 by_cases hl : len * n = 0
 · obtain ⟨rv, r1, r2, r3, r4⟩ := fin #[] (hcells #[] (by rw [if_pos hl]))
   obtain ⟨hE, hI'⟩ := jj hI hnid hf0 cs rv e r2 r3
   refine ⟨_, .slice (some ⟨w.heap.size, 0, none⟩) len len, _, _, ?_, .inl rfl, hE, hI', .inr ⟨_, _, _, fe hI hnid _, rfl, Nat.le_refl _, rfl, fun _ => ⟨rfl, ?_⟩⟩, ep hI hnid _ _⟩
   · have hle' : ¬ len * n > 2 ^ 24 := by simpa using hle
     simp only [Instr.buildSlice, Sem.run_bind, run_underlying hu, Result.andThen_ok, bG hn, Sem.run_ite, if_neg hle', if_pos hl, Sem.run_pure]
     rw [r1]
     rfl
   · simp [r4]
 · obtain ⟨rv, r1, r2, r3, r4⟩ := fin zv.cells (hcells zv.cells (by rw [if_neg hl]))
   obtain ⟨hE, hI'⟩ := jj hI hnid hf0 cs rv e r2 r3
   refine ⟨_, .slice (some ⟨w.heap.size, 0, none⟩) len len, _, _, ?_, .inl rfl, hE, hI', .inr ⟨_, _, _, fe hI hnid _, rfl, Nat.le_refl _, rfl, fun _ => ⟨rfl, ?_⟩⟩, ep hI hnid _ _⟩
   · have hle' : ¬ len * n > 2 ^ 24 := by simpa using hle
     simp only [Instr.buildSlice, Sem.run_bind, run_underlying hu, Result.andThen_ok, bG hn, Sem.run_ite, if_neg hle', if_neg hl, hrun, Sem.run_pure]
     rw [r1]
     rfl
   · simp [r4]
theorem n4 {mu : Nat -> Prop} {ρ : Operand -> AV} {ρc : Operand -> Value} (hρ : ∀ x, Rv w mu Z (ρ x) (ρc x)) {t : TypeId} {fs : Array Field} {z cs : List AV} {pl : List (Nat × Nat)} {parts : Array (Nat × Operand)}
  (hu : P.underlying t = some (.struct fs)) (hz : iu P t = some z) (hp : mW P fs.toList = some pl) (h1 : z.all eC = true) (hf : nw (fun i => pl[i]?) z (parts.toList.map fun p => (p.1, ρ p.2)) = some cs) :
  ∃ u, (Instr.build t (parts.map fun (i, x) => (i, ρc x))).run P w = .ok u w /\ Rv w mu Z (.agg cs) u := by
 obtain ⟨zv, hrun, rfl⟩ := mC hz
 obtain ⟨rv, r1, r2, r3, r4⟩ := kB (w := w) (Z := Z) (mu := mu) (place := fun i => pl[i]?) (parts.toList.map fun p : Nat × Operand => (p.1, ρ p.2)) (parts.toList.map fun p : Nat × Operand => (p.1, ρc p.2)) (zv.cells.toList.map .at) zv.cells cs (by simp) (mY hρ parts.toList) (dW _) (all_zero h1) hf
 have hparts : (parts.map fun p : Nat × Operand => (p.1, ρc p.2)).toList = parts.toList.map fun p => (p.1, ρc p.2) := by simp
 refine ⟨.agg rv, ?_, rv, rfl, r2⟩
 have hpl : (fs.mapM (m := Sem) fun f => do pure (f.offset, <- sizeOf f.type)).run P w = .ok pl.toArray w := by
  rw [Array.mapM_eq_mapM_toList]
  have := nr (P := P) w fs.toList pl hp
  simp only [Sem.run_map, this, Result.andThen_ok]
 simp only [Instr.build, Sem.run_bind, hrun, Result.andThen_ok, run_underlying hu, hpl, hparts]
 have e : (fun x : Nat => pl.toArray[x]?) = (fun i : Nat => pl[i]?) := by funext i; simp
 simp only [e, r1]
 rfl
theorem oJ {mu : Nat -> Prop} {ρ : Operand -> AV} {ρc : Operand -> Value} (hρ : ∀ x, Rv w mu Z (ρ x) (ρc x)) {t e : TypeId} {len n : Nat} {z cs : List AV} {parts : Array (Nat × Operand)}
  (hu : P.underlying t = some (.array len e)) (hz : iu P t = some z) (hn : dM P e = some n) (h1 : z.all eC = true) (hf : nw (fun i => some (i * n, n)) z (parts.toList.map fun p => (p.1, ρ p.2)) = some cs) :
  ∃ u, (Instr.build t (parts.map fun (i, x) => (i, ρc x))).run P w = .ok u w /\ Rv w mu Z (.agg cs) u := by
 obtain ⟨zv, hrun, rfl⟩ := mC hz
 obtain ⟨rv, r1, r2, r3, r4⟩ := kB (w := w) (Z := Z) (mu := mu) (place := fun i => some (i * n, n)) (parts.toList.map fun p : Nat × Operand => (p.1, ρ p.2)) (parts.toList.map fun p : Nat × Operand => (p.1, ρc p.2)) (zv.cells.toList.map .at) zv.cells cs (by simp) (mY hρ parts.toList) (dW _) (all_zero h1) hf
 have hparts : (parts.map fun p : Nat × Operand => (p.1, ρc p.2)).toList = parts.toList.map fun p => (p.1, ρc p.2) := by simp
 refine ⟨.agg rv, ?_, rv, rfl, r2⟩
 simp only [Instr.build, Sem.run_bind, hrun, Result.andThen_ok, run_underlying hu, bG hn, hparts]
 rw [r1]
 rfl
theorem qi (hI : Inv out B w Z H) {nid : Nat} (hnid : nid <= H.length) (hf0 : ∀ q, Z[nid]? ≠ some (some q)) {t e : TypeId} {kl kc : IntKind} {l c : Int} {n by_ : Nat} {z : List AV} (hu : P.underlying t = some (.slice e)) (hn : dM P e = some n) (hb : kd P e = some by_) (hz : iu P e = some z)
  (h0 : 0 <= l) (hlc : l <= c) (hby : (by_ : Int) * c <= 281474976710656) (h63 : c <= 9223372036854775807) (hzl : z.length = n) (hn0 : 0 < n) (h3 : z.all eC = true) :
  bL P out B w Z H (do pure (.value (<- Instr.makeSlice t (.int kl l) (.int kc c)))) (.eff (.hs nid 0 l.toNat n) [(nid, .own (cN z c.toNat))]) := by
 obtain ⟨zv, i, hi, hzv, hrun, rfl⟩ := kP hz w
 have hsz : i.size = n := by simpa [dM, hi] using hn
 have hbs : i.bytes = by_ := by simpa [kd, hi] using hb
 have hzs : zv.cells.size = n := by simpa using hzl
 have hm := run_make (P := P) w t e i zv hu hi hzv kl kc l c h0 hlc (by rw [hbs]; exact hby) h63
 have he : (madeCells zv.cells (c.toNat * i.size)).toList = (List.replicate c.toNat zv.cells.toList).flatten := by
  rw [hsz, <- hzs]; exact jI zv.cells c.toNat (by omega)
 obtain ⟨hE, hI'⟩ := jj hI hnid hf0 (cN (zv.cells.toList.map .at) c.toNat) (madeCells zv.cells (c.toNat * i.size)) e (by rw [he]; exact mZ _ _) (by rw [he]; exact ij (all_zero h3) _)
 exact ⟨_, .slice (some ⟨w.heap.size, 0, none⟩) l.toNat c.toNat, _, _, by simp [hm], .inl rfl, hE, hI', .inr ⟨_, _, _, fe hI hnid _, rfl, by omega, rfl, fun _ => ⟨rfl, by simp [size_madeCells, hsz]⟩⟩, ep hI hnid _ _⟩
end
section
variable {P : Program} {out : Nat -> Prop} {B : Nat -> Prop} {w : World} {Z : List (Option PB)} {H : List Blk}
theorem iW (hI : Inv out B w Z H) {n : Nat} {x : AV} {v : Value} {cs : List AV} {m : Nat} (hx : Rv w (aH out Z H) Z x v) (h : gv H n x = some (cs, m)) :
  ∃ a cap, v = .slice a m cap /\ (a = none -> m = 0) /\ m <= cap /\ ∃ vs : List Value, vs.length = m * n /\ RvL w (aH out Z H) Z cs vs /\ (∀ u ∈ vs, u.oneCell' = true) /\ (∀ b, a = some b -> ∀ j u, vs[j]? = some u -> w.cell? (b.add j) = some u) := by
 unfold gv at h
 split at h
 · cases h; cases hx; exact ⟨none, 0, rfl, fun _ => rfl, Nat.le_refl _, [], by simp, rfl, by simp, fun b hb => by cases hb⟩
 · rename_i nl c len
   split at h
   · rename_i hl
     simp only [decide_eq_true_eq] at hl
     cases h
     rcases hx with ⟨_, rfl, rfl, rfl⟩ | ⟨b, o, cap, rfl, h2, h3, h4⟩ | ⟨rfl, rfl, a, cap, rfl⟩
     rotate_left 2
     · exact ⟨some a, cap, rfl, fun _ => rfl, Nat.zero_le _, [], by simp, rfl, by simp, fun b hb j u hj => by simp at hj⟩
     · exact ⟨none, 0, rfl, fun _ => rfl, Nat.le_refl _, [], by simp, rfl, by simp, fun b hb => by cases hb⟩
     · obtain ⟨vs, g1, g2, g3, g4⟩ := kU h4.lift (Nat.le_refl _)
       rw [List.take_length] at g2
       exact ⟨_, cap, rfl, (fun e => by cases e), h2, vs, by rw [g1]; exact hl, g2, g3, fun b' hb' => by cases hb'; exact g4⟩
   · cases h
 · rename_i i off len es
   rcases hx with ⟨rfl, rfl⟩ | ⟨p, a, cap, h1, rfl, h2, hsp, h3⟩
   · have : cs = [] /\ m = 0 := by
      split at h
      · split at h
        · cases h; simp
        · cases h
      · split at h
        · cases h; simp
        · cases h
      · cases h
     obtain ⟨rfl, rfl⟩ := this
     exact ⟨none, 0, rfl, fun _ => rfl, Nat.le_refl _, [], by simp, rfl, by simp, fun b hb => by cases hb⟩
   have key : ∀ c : List AV, (H[i]? = some (.own c) \/ H[i]? = some (.fix c)) -> off + len * n <= c.length -> cs = (c.drop off).take (len * n) -> m = len ->
     ∃ a' cap', Value.slice (some a) len cap = .slice a' m cap' /\ (a' = none -> m = 0) /\ m <= cap' /\ ∃ vs : List Value, vs.length = m * n /\ RvL w (aH out Z H) Z cs vs /\ (∀ u ∈ vs, u.oneCell' = true) /\ (∀ b, a' = some b -> ∀ j u, vs[j]? = some u -> w.cell? (b.add j) = some u) := by
    intro c hc hle e1 e2
    subst e1; subst e2
    obtain ⟨vs, g1, g2, g3, g4⟩ := kU (n := m * n) (RvC.drop off c _ _ (fB hI hc h1)) (by simp; omega)
    refine ⟨_, cap, rfl, (fun e => by cases e), h2, vs, g1, g2, g3, fun b hb => ?_⟩
    cases hb
    intro j u hj
    by_cases hcap : 0 < cap
    · rw [(h3 hcap).1]; exact g4 j u hj
    · have : vs.length = 0 := by rw [g1]; have : m = 0 := by omega
                                 simp [this]
      rw [List.length_eq_zero_iff] at this
      subst this; simp at hj
   split at h
   · rename_i c hc
     split at h
     · rename_i hle; cases h; exact key c (.inl hc) (by simpa using hle) rfl rfl
     · cases h
   · rename_i c hc
     split at h
     · rename_i hle; cases h; exact key c (.inr hc) (by simpa using hle) rfl rfl
     · cases h
   · cases h
 · cases h
theorem df {n m cap : Nat} {a : Option Addr} {vs : List Value} (w : World) (hl : vs.length = m * n) (h0 : a = none -> m = 0) (h : ∀ b, a = some b -> ∀ j u, vs[j]? = some u -> w.cell? (b.add j) = some u) :
  (Builtin.firstCells n m (.slice a m cap)).run P w = .ok vs.toArray w := by
 cases a with
 | none =>
  have : vs = [] := by rw [<- List.length_eq_zero_iff, hl, h0 rfl]; simp
  subst this; rfl
 | some b => exact run_firstCells_some w n m b m cap vs hl (h b rfl)
theorem yg (hI : Inv out B w Z H) {nid : Nat} (hnid : nid <= H.length) (hf0 : ∀ q, Z[nid]? ≠ some (some q)) {t t' e e' ty : TypeId} {n by_ : Nat} {z : List AV} {i' off len scap es : Nat} {x : AV} {vs vx : Value} {r : bc} (ht : P.underlying t = some (.slice e)) (ht' : P.underlying t' = some (.slice e'))
  (hn : dM P e = some n) (hb : kd P e = some by_) (hz : iu P e = some z) (hzl : z.length = n) (hs : Rv w (aH out Z H) Z (.hc i' off len scap es) vs) (hx : Rv w (aH out Z H) Z x vx) (h : fX H nid n by_ (.hc i' off len scap es) x = some r) :
  bL P out B w Z H (do pure (.value (<- Builtin.append_ #[t, t'] ty #[vs, vx]))) r := by
 obtain ⟨zv, i, hi, hzv, hrun, rfl⟩ := kP hz w
 have hsz : i.size = n := by simpa [dM, hi] using hn
 have hbs : i.bytes = by_ := by simpa [kd, hi] using hb
 unfold fX at h
 split at h
 · cases h
 · rename_i new m hc
   obtain ⟨a, cap, rfl, h0, h1, us, hul, husR, hus1, hcell⟩ := iW hI hx hc
   have hfc := df (P := P) (cap := cap) w hul h0 hcell
   have hfd := df (P := P) (cap := cap) w.drew hul h0 (by simpa using hcell)
   obtain ⟨m, rfl⟩ : ∃ m', m = m' + 1 := by
    cases m with
    | zero => simp at h; split at h <;> cases h
    | succ m => exact ⟨m, rfl⟩
   change us.length = (m + 1) * n at hul
   simp only at h
   split at h
   · rename_i cs hH
     split at h
     · rename_i hcond
       simp only [Bool.and_eq_true, decide_eq_true_eq] at hcond
       obtain ⟨⟨⟨⟨⟨⟨rfl, k0⟩, k1⟩, rfl⟩, k2⟩, k3⟩, k4⟩ := hcond
       simp only [Rv, Nat.add_zero] at hs
       obtain ⟨p, ad, h1', rfl, h2, hsp, h3⟩ := hs
       obtain ⟨⟨c, te, hheap, hcs⟩, hC⟩ := hI.ok i' _ p hH h1'
       have hzsz : zv.cells.size = es := by simpa using hzl
       obtain ⟨os, o1, o2, o3, o4⟩ := kU (n := len * es) hC k2
       split at h
       ·
        rename_i hroom
        have hroom : len + (m + 1) <= scap := by simpa using hroom
        cases h
        obtain ⟨rfl, h6⟩ := h3 (by omega)
        have hK : p.off + len * es + us.length <= c.size := by
         rw [hul, hcs]
         have : len * es + (m + 1) * es <= scap * es := by rw [<- Nat.add_mul]; exact Nat.mul_le_mul_right _ hroom
         omega
        have hst := run_storeCells_at P p.blk (p.off + len * es) te us 0 c w hheap (by simpa using hK) hus1
        simp only [Nat.add_zero] at hst
        have hrunA : (Builtin.append_ #[t, t'] ty #[.slice (some ⟨p.blk, p.off, none⟩) len scap, .slice a (m + 1) cap]).run P w =
          .ok (.slice (some ⟨p.blk, p.off, none⟩) (len + (m + 1)) scap) (w.setRow p.blk (c.toList.take (p.off + len * es) ++ us ++ c.toList.drop (p.off + len * es + us.length)).toArray) := by
         simp [Builtin.append_, run_underlying ht, run_underlying ht', bG hn, Builtin.lenOf, hroom, hfc, dF, hst]
        obtain ⟨hE, hI'⟩ := Inv.kO hI hH h1' rfl (.own (cs.take (len * es) ++ new)) (w' := w.setRow p.blk (c.toList.take (p.off + len * es) ++ us ++ c.toList.drop (p.off + len * es + us.length)).toArray)
         (by simp) (fun b hb => by simp only [World.setRow, Array.getElem?_modify]; rw [if_neg (by omega)]) rfl rfl rfl (fun _ => Nat.le_refl _) (fun hE => by
          refine ⟨⟨_, te, setRow_heap w _ c _ te _ hheap, ?_⟩, ?_⟩
          · simp; omega
          · refine ff _ (os ++ us) _ _ (RvL.append _ _ _ _ (RvL.ext hE _ _ o2) (RvL.ext hE _ _ husR)) ?_ ?_
            · intro u hu
              rcases List.mem_append.1 hu with hu | hu
              · exact o3 u hu
              · exact hus1 u hu
            · intro j u hj
              simp only [World.cell?, setRow_heap w _ c _ te _ hheap]
              simp only [Option.isSome_none, Bool.false_eq_true, if_false, List.getElem?_toArray]
              have hlt : (c.toList.take (p.off + len * es)).length = p.off + len * es := by simp; omega
              rw [List.append_assoc]
              by_cases hjl : j < os.length
              · rw [List.getElem?_append_left hjl] at hj
                rw [List.getElem?_append_left (by rw [hlt]; omega), List.getElem?_take, if_pos (by omega)]
                have := o4 j u hj
                rw [dF] at this
                simp only [World.cell?, hheap] at this
                simpa using this
              · rw [List.getElem?_append_right (by omega)] at hj
                rw [List.getElem?_append_right (by rw [hlt]; omega), hlt, show p.off + j - (p.off + len * es) = j - os.length by omega]
                rw [List.getElem?_append_left (aE hj)]
                exact hj)
        have hupd : aO H [(i', .own (cs.take (len * es) ++ new))] = H.set i' (.own (cs.take (len * es) ++ new)) := by simp [aO, upd, aE hH]
        rw [<- hupd] at hE hI'
        exact ⟨_, .slice (some ⟨p.blk, p.off, none⟩) (len + (m + 1)) scap, _, _, by simp only [Sem.run_bind, hrunA, Result.andThen_ok]; rfl, .inl rfl, hE, hI', .inr ⟨p, _, _, h1', rfl, hroom, rfl, fun _ => ⟨rfl, h6⟩⟩, fun j _ => rfl⟩
       ·
        rename_i hroom
        have hroom : ¬ len + (m + 1) <= scap := by simpa using hroom
        cases h
        have hfit := growslice_fits (need := len + (m + 1)) (old := scap) (bytes := by_) (by omega) k3
        have g1 : ¬ 9223372036854775807 < ((len : Int) + ((m : Int) + 1)) := by omega
        have g2 : ¬ 281474976710656 < Builtin.nextslicecap (len + (m + 1)) scap * by_ := by omega
        obtain ⟨hE0, hI0⟩ := hI.same (w' := w.drew) rfl rfl rfl rfl (fun _ => Nat.le_succ _)
        have hlen := RvL.length _ _ husR
        have hfo := df (P := P) (cap := scap) (a := some ad) w.drew o1 (fun e => by cases e) (fun b' hb' j u hj => by
          cases hb'
          by_cases hcap : 0 < scap
          · rw [(h3 hcap).1]; simpa using o4 j u hj
          · have h0 : len = 0 := by omega
            have : os = [] := by rw [<- List.length_eq_zero_iff, o1, h0, Nat.zero_mul]
            subst this; simp at hj)
        have hol := RvL.length _ _ o2
        have htk : (os.toArray ++ us.toArray ++ Builtin.zeroCells zv.cells (grownCap w (len + (m + 1)) scap e - (len + (m + 1)))).toList.take (cs.take (len * es) ++ new).length = os ++ us := by
         simp only [Array.toList_append, List.length_append]
         rw [<- hol, <- hlen, <- List.length_append, List.take_left]
        obtain ⟨hE, hI'⟩ := mR hI0 hnid hf0 (cs.take (len * es) ++ new) (os.toArray ++ us.toArray ++ Builtin.zeroCells zv.cells (grownCap w (len + (m + 1)) scap e - (len + (m + 1)))) e
         (by rw [htk]; exact RvL.ext hE0 _ _ (RvL.append _ _ _ _ o2 husR)) (by
          rw [htk]; intro u hu
          rcases List.mem_append.1 hu with hu | hu
          · exact o3 u hu
          · exact hus1 u hu)
        have hge : len + (m + 1) <= grownCap w (len + (m + 1)) scap e := by simp [grownCap, Question.cut]
        have e0 : (grownCap w (len + (m + 1)) scap e - (len + (m + 1))) * es + (len * es + (m + 1) * es) = grownCap w (len + (m + 1)) scap e * es := by
         rw [<- Nat.add_mul, <- Nat.add_mul]; congr 1; omega
        refine ⟨_, .slice (some ⟨w.heap.size, 0, none⟩) (len + (m + 1)) (grownCap w (len + (m + 1)) scap e), _, _, ?_, .inl rfl, hE0.trans hE, hI', .inr ⟨_, _, _, fe hI hnid _, rfl, hge, rfl, fun _ => ⟨rfl, ?_⟩⟩, ep hI hnid _ _⟩
        · simp [Builtin.append_, run_underlying ht, run_underlying ht', sizeOf, typeInfo, zeroValue, hi, hzv, Builtin.lenOf, hsz, hbs, g1, g2, hroom, Question.forced, hfo, hfd, newRow, grownCap]
          congr 2
          apply Array.ext'
          simp [List.append_assoc]
        · simp only [Array.size_append, List.size_toArray, o1, hul, size_zeroCells, hzsz]
          omega
     · cases h
   · cases h
theorem tt (hI : Inv out B w Z H) {nid : Nat} (hnid : nid <= H.length) (hf0 : ∀ q, Z[nid]? ≠ some (some q)) {t t' e e' ty : TypeId} {n by_ : Nat} {z : List AV} {s x : AV} {vs vx : Value} {r : bc} (ht : P.underlying t = some (.slice e)) (ht' : P.underlying t' = some (.slice e'))
  (hn : dM P e = some n) (hb : kd P e = some by_) (hz : iu P e = some z) (hzl : z.length = n) (hs : Rv w (aH out Z H) Z s vs) (hx : Rv w (aH out Z H) Z x vx) (h : fX H nid n by_ s x = some r) :
  bL P out B w Z H (do pure (.value (<- Builtin.append_ #[t, t'] ty #[vs, vx]))) r := by
 by_cases hq : ∃ i off len cap es, s = .hc i off len cap es
 · obtain ⟨_, _, _, _, _, rfl⟩ := hq
   exact yg hI hnid hf0 ht ht' hn hb hz hzl hs hx h
 obtain ⟨zv, i, hi, hzv, hrun, rfl⟩ := kP hz w
 have hsz : i.size = n := by simpa [dM, hi] using hn
 have hbs : i.bytes = by_ := by simpa [kd, hi] using hb
 unfold fX at h
 split at h
 · cases h
 · rename_i new m hc
   obtain ⟨a, cap, rfl, h0, h1, us, hul, husR, hus1, hcell⟩ := iW hI hx hc
   have hfc := df (P := P) (cap := cap) w hul h0 hcell
   have hfd := df (P := P) (cap := cap) w.drew hul h0 (by simpa using hcell)
   have nothing : m = 0 -> us = [] /\ new = [] := by
    intro hm
    have hnil : us = [] := by rw [<- List.length_eq_zero_iff, hul, hm]; simp
    subst hnil
    have := RvL.length _ _ husR
    exact ⟨rfl, by rw [<- List.length_eq_zero_iff]; simpa using this.symm⟩
   have fin : m = 0 -> ∀ (b : Option Addr) (l c : Nat), l <= c -> (Builtin.append_ #[t, t'] ty #[.slice b l c, .slice a m cap]).run P w = .ok (.slice b l c) w := by
    intro hm b l c hlc
    obtain ⟨rfl, _⟩ := nothing hm
    subst hm
    cases b with
    | none => simp [Builtin.append_, run_underlying ht, run_underlying ht', bG hn, Builtin.lenOf, hlc, hfc]
    | some b => simp [Builtin.append_, run_underlying ht, run_underlying ht', bG hn, Builtin.lenOf, hlc, hfc, storeCells]
   by_cases hm0 : m = 0
   ·
    obtain ⟨hus0, hnew0⟩ := nothing hm0
    have fin0 := fin hm0
    clear hfc hfd nothing fin hul husR hus1 hcell
    split at h
    · split at h
      · cases h; cases hs
        obtain ⟨hE, hI'⟩ := hI.qu hnid hf0 (.own new)
        refine ⟨_, .slice none 0 0, w, upd Z nid none, by simp only [Sem.run_bind, fin0 none 0 0 (Nat.le_refl _), Result.andThen_ok]; rfl, .inl rfl, hE, hI', .inl ⟨hm0, rfl⟩, ep hI hnid _ _⟩
      · cases h
    · split at h
      · cases h
        have hs' := hs
        rcases hs with ⟨rfl, rfl, rfl, rfl⟩ | ⟨b, o, c, rfl, g2, _⟩ | ⟨rfl, rfl, a, c, rfl⟩
        · exact bL.value (fin0 _ _ _ (Nat.le_refl _)) hs'
        · exact bL.value (fin0 _ _ _ g2) hs'
        · exact bL.value (fin0 _ _ _ (Nat.zero_le _)) hs'
      · cases h
    · rename_i i' off len es
      split at h
      · rename_i cs hH
        split at h
        · rename_i hcond
          simp only [Bool.and_eq_true, decide_eq_true_eq] at hcond
          obtain ⟨⟨⟨⟨rfl, k0⟩, k1⟩, k2⟩, k3⟩ := hcond
          cases h
          subst hm0; subst hnew0
          rcases hs with ⟨rfl, rfl⟩ | ⟨p, b, scap, h1', rfl, h2, hsp, h3⟩
          · obtain ⟨hE0, hI0⟩ := hI.kill i' (w' := w) rfl rfl rfl rfl (fun _ => Nat.le_refl _)
            obtain ⟨hE, hI'⟩ := hI0.qu (by simpa using hnid) hf0 (.own ((cs.drop off).take (0 * es) ++ []))
            have hupd : aO H [(i', .dead), (nid, .own ((cs.drop off).take (0 * es) ++ []))] = upd (H.set i' .dead) nid (.own ((cs.drop off).take (0 * es) ++ [])) := by simp [aO, upd, aE hH]
            rw [<- hupd] at hE hI'
            exact ⟨_, .slice none 0 0, w, upd Z nid none, by simp only [Sem.run_bind, fin0 none 0 0 (Nat.le_refl _), Result.andThen_ok]; rfl, .inl rfl, hE0.trans hE, hI', .inl ⟨rfl, rfl⟩, fun j hj => ep hI hnid none (.own ((cs.drop off).take (0 * es) ++ [])) j (fun b hb => hj b (by simp at hb ⊢; exact .inr hb))⟩
          · obtain ⟨⟨c, te, hheap, hcs⟩, hC⟩ := hI.ok i' _ p hH h1'
            obtain ⟨hE, hI'⟩ := hI.grow hH h1' rfl (.own ((cs.drop off).take (len * es) ++ [])) ⟨p.blk, p.off + off, p.size, fun _ => none⟩ rfl hnid hf0 (w' := w) rfl (fun _ _ => rfl) rfl rfl rfl (fun _ => Nat.le_refl _) (fun hE => by
             refine ⟨⟨c, te, hheap, hcs⟩, ?_⟩
             have hcc := RvC.ext hE ((cs.drop off).take (len * es)) _ _ rfl (RvC.take (len * es) _ _ _ (RvC.drop off cs _ _ hC))
             simpa using hcc)
            have hupd : aO H [(i', .dead), (nid, .own ((cs.drop off).take (len * es) ++ []))] = upd (H.set i' .dead) nid (.own ((cs.drop off).take (len * es) ++ [])) := by simp [aO, upd, aE hH]
            rw [<- hupd] at hE hI'
            refine ⟨_, .slice (some b) len scap, w, _, by simp only [Sem.run_bind, fin0 (some b) len scap h2, Result.andThen_ok]; rfl, .inl rfl, hE, hI', .inr ⟨⟨p.blk, p.off + off, p.size, fun _ => none⟩, b, scap, fe hI hnid _, rfl, by omega, hsp, fun hc0 => ?_⟩, fun j hj => ep hI hnid _ (.own ((cs.drop off).take (len * es) ++ [])) j (fun b hb => hj b (by simp at hb ⊢; exact .inr hb))⟩
            obtain ⟨e1, e2⟩ := h3 hc0
            exact ⟨by rw [e1, Nat.add_zero], by simpa using e2⟩
        · cases h
      · split at h
        · rename_i hcond
          simp only [Bool.and_eq_true, decide_eq_true_eq] at hcond
          omega
        · cases h
      · cases h
    · exact (hq ⟨_, _, _, _, _, rfl⟩).elim
    · cases h
   obtain ⟨m, rfl⟩ : ∃ m', m = m' + 1 := ⟨m - 1, by omega⟩
   clear fin nothing hm0
   change us.length = (m + 1) * n at hul
   split at h
   ·
    split at h
    · rename_i hcond
      simp only [Bool.and_eq_true, decide_eq_true_eq] at hcond
      obtain ⟨⟨k1, k2⟩, k3⟩ := hcond
      cases h; cases hs
      have hfit := growslice_fits (need := m + 1) (old := 0) (bytes := by_) (by omega) k1
      have g1 : ¬ 9223372036854775807 < ((m : Int) + 1) := by omega
      have g2 : ¬ 281474976710656 < Builtin.nextslicecap (m + 1) 0 * by_ := by omega
      obtain ⟨hE0, hI0⟩ := hI.same (w' := w.drew) rfl rfl rfl rfl (fun _ => Nat.le_succ _)
      have hlen := RvL.length _ _ husR
      obtain ⟨hE, hI'⟩ := mR hI0 hnid hf0 new (us.toArray ++ Builtin.zeroCells zv.cells (grownCap w (m + 1) 0 e - (m + 1))) e (by
        have : (us.toArray ++ Builtin.zeroCells zv.cells (grownCap w (m + 1) 0 e - (m + 1))).toList.take new.length = us := by simp [<- hlen]
        rw [this]; exact RvL.ext hE0 _ _ husR) (by
        have : (us.toArray ++ Builtin.zeroCells zv.cells (grownCap w (m + 1) 0 e - (m + 1))).toList.take new.length = us := by simp [<- hlen]
        rw [this]; exact hus1)
      have hge : m + 1 <= grownCap w (m + 1) 0 e := by simp [grownCap, Question.cut]
      have hzsz : zv.cells.size = n := by simpa using hzl
      have e0 : (grownCap w (m + 1) 0 e - (m + 1)) * n + (m + 1) * n = grownCap w (m + 1) 0 e * n := by rw [<- Nat.add_mul]; congr 1; omega
      refine ⟨_, .slice (some ⟨w.heap.size, 0, none⟩) (m + 1) (grownCap w (m + 1) 0 e), _, _, ?_, .inl rfl, hE0.trans hE, hI', .inr ⟨_, _, _, fe hI hnid _, rfl, hge, rfl, fun _ => ⟨rfl, ?_⟩⟩, ep hI hnid _ _⟩
      · simp [Builtin.append_, run_underlying ht, run_underlying ht', sizeOf, typeInfo, zeroValue, hi, hzv, Builtin.lenOf, hsz, hbs, g1, g2, Question.forced, run_firstCells_none, hfd, newRow, grownCap]
      · simp only [Array.size_append, List.size_toArray, hul, size_zeroCells, hzsz]
        omega
    · cases h
   · split at h
     · rename_i h9; simp at h9
     · cases h
   ·
    rename_i i' off len es
    split at h
    · rename_i cs hH
      split at h
      · rename_i hcond
        simp only [Bool.and_eq_true, decide_eq_true_eq] at hcond
        obtain ⟨⟨⟨⟨rfl, k0⟩, k1⟩, k2⟩, k3⟩ := hcond
        cases h
        rcases hs with ⟨rfl, rfl⟩ | ⟨p, b, scap, h1', rfl, h2, hsp, h3⟩
        ·
         have hfit := growslice_fits (need := m + 1) (old := 0) (bytes := by_) (by omega) (by simpa using k2)
         have g1 : ¬ 9223372036854775807 < ((m : Int) + 1) := by omega
         have g2 : ¬ 281474976710656 < Builtin.nextslicecap (m + 1) 0 * by_ := by omega
         obtain ⟨hE0, hI0⟩ := hI.kill i' (w' := w.drew) rfl rfl rfl rfl (fun _ => Nat.le_succ _)
         have hlen := RvL.length _ _ husR
         obtain ⟨hE, hI'⟩ := mR hI0 (by simpa using hnid) hf0 ((cs.drop off).take (0 * es) ++ new) (us.toArray ++ Builtin.zeroCells zv.cells (grownCap w (m + 1) 0 e - (m + 1))) e (by
           have : (us.toArray ++ Builtin.zeroCells zv.cells (grownCap w (m + 1) 0 e - (m + 1))).toList.take ((cs.drop off).take (0 * es) ++ new).length = us := by simp [<- hlen]
           rw [this]; simpa using RvL.ext hE0 _ _ husR) (by
           have : (us.toArray ++ Builtin.zeroCells zv.cells (grownCap w (m + 1) 0 e - (m + 1))).toList.take ((cs.drop off).take (0 * es) ++ new).length = us := by simp [<- hlen]
           rw [this]; exact hus1)
         have hge : m + 1 <= grownCap w (m + 1) 0 e := by simp [grownCap, Question.cut]
         have hzsz : zv.cells.size = es := by simpa using hzl
         have e0 : (grownCap w (m + 1) 0 e - (m + 1)) * es + (m + 1) * es = grownCap w (m + 1) 0 e * es := by rw [<- Nat.add_mul]; congr 1; omega
         have hupd : aO H [(i', .dead), (nid, .own ((cs.drop off).take (0 * es) ++ new))] = aO (H.set i' .dead) [(nid, .own ((cs.drop off).take (0 * es) ++ new))] := by simp [aO, upd, aE hH]
         rw [<- hupd] at hE hI'
         refine ⟨_, .slice (some ⟨w.heap.size, 0, none⟩) (m + 1) (grownCap w (m + 1) 0 e), _, _, ?_, .inl rfl, hE0.trans hE, hI', .inr ⟨_, ⟨w.heap.size, 0, none⟩, grownCap w (m + 1) 0 e, fe hI hnid _, by rw [Nat.zero_add], by rw [Nat.zero_add]; exact hge, rfl, fun _ => ⟨rfl, ?_⟩⟩, fun j hj => ep hI hnid _ (.own ((cs.drop off).take (0 * es) ++ new)) j (fun b hb => hj b (by simp at hb ⊢; exact .inr hb))⟩
         · simp [Builtin.append_, run_underlying ht, run_underlying ht', sizeOf, typeInfo, zeroValue, hi, hzv, Builtin.lenOf, hsz, hbs, g1, g2, Question.forced, run_firstCells_none, hfd, newRow, grownCap]
         · simp only [Array.size_append, List.size_toArray, hul, size_zeroCells, hzsz]
           omega
        obtain ⟨⟨c, te, hheap, hcs⟩, hC⟩ := hI.ok i' _ p hH h1'
        have hzsz : zv.cells.size = es := by simpa using hzl
        obtain ⟨os, o1, o2, o3, o4⟩ := kU (n := len * es) (RvC.drop off cs _ _ hC) (by simp; omega)
        have oldcell : ∀ (w' : World), (∀ ad, w'.cell? ad = w.cell? ad) -> ∀ b', some b = some b' -> ∀ j u, os[j]? = some u -> w'.cell? (b'.add j) = some u := by
         intro w' hw' b' hb' j u hj
         cases hb'
         rw [hw']
         by_cases hcap : 0 < scap
         · rw [(h3 hcap).1]; exact o4 j u hj
         · have : os.length = 0 := by
            rw [o1]; have : len = 0 := by omega
            simp [this]
           rw [List.length_eq_zero_iff] at this
           subst this; simp at hj
        by_cases hroom : len + (m + 1) <= scap
        ·
         obtain ⟨hb', hfit⟩ := h3 (by omega)
         subst hb'
         have hK : p.off + off + len * es + us.length <= c.size := by
          rw [hul, hcs]
          have : len * es + (m + 1) * es <= scap * es := by rw [<- Nat.add_mul]; exact Nat.mul_le_mul_right _ hroom
          omega
         have hst := run_storeCells_at P p.blk (p.off + off + len * es) te us 0 c w hheap (by simpa using hK) hus1
         simp only [Nat.add_zero] at hst
         have hrunA : (Builtin.append_ #[t, t'] ty #[.slice (some ⟨p.blk, p.off + off, none⟩) len scap, .slice a (m + 1) cap]).run P w =
           .ok (.slice (some ⟨p.blk, p.off + off, none⟩) (len + (m + 1)) scap) (w.setRow p.blk (c.toList.take (p.off + off + len * es) ++ us ++ c.toList.drop (p.off + off + len * es + us.length)).toArray) := by
          simp [Builtin.append_, run_underlying ht, run_underlying ht', bG hn, Builtin.lenOf, hroom, hfc, dF, hst]
         obtain ⟨hE, hI'⟩ := hI.grow hH h1' rfl (.own ((cs.drop off).take (len * es) ++ new)) ⟨p.blk, p.off + off, p.size, fun _ => none⟩ rfl hnid hf0 (w' := w.setRow p.blk (c.toList.take (p.off + off + len * es) ++ us ++ c.toList.drop (p.off + off + len * es + us.length)).toArray)
          (by simp) (fun b hb => by simp only [World.setRow, Array.getElem?_modify]; rw [if_neg (by omega)]) rfl rfl rfl (fun _ => Nat.le_refl _) (fun hE => by
           refine ⟨⟨_, te, setRow_heap w _ c _ te _ hheap, ?_⟩, ?_⟩
           · simp; omega
           · refine ff _ (os ++ us) _ _ (RvL.append _ _ _ _ (RvL.ext hE _ _ o2) (RvL.ext hE _ _ husR)) ?_ ?_
             · intro u hu
               rcases List.mem_append.1 hu with hu | hu
               · exact o3 u hu
               · exact hus1 u hu
             · intro j u hj
               simp only [World.cell?, setRow_heap w _ c _ te _ hheap]
               simp only [Option.isSome_none, Bool.false_eq_true, if_false, List.getElem?_toArray]
               have hlt : (c.toList.take (p.off + off + len * es)).length = p.off + off + len * es := by simp; omega
               rw [List.append_assoc]
               by_cases hjl : j < os.length
               · rw [List.getElem?_append_left hjl] at hj
                 rw [List.getElem?_append_left (by rw [hlt]; omega), List.getElem?_take, if_pos (by omega)]
                 have := o4 j u hj
                 rw [dF] at this
                 simp only [World.cell?, hheap] at this
                 simpa using this
               · rw [List.getElem?_append_right (by omega)] at hj
                 rw [List.getElem?_append_right (by rw [hlt]; omega), hlt, show p.off + off + j - (p.off + off + len * es) = j - os.length by omega]
                 rw [List.getElem?_append_left (aE hj)]
                 exact hj)
         have hupd : aO H [(i', .dead), (nid, .own ((cs.drop off).take (len * es) ++ new))] = upd (H.set i' .dead) nid (.own ((cs.drop off).take (len * es) ++ new)) := by simp [aO, upd, aE hH]
         rw [<- hupd] at hE hI'
         refine ⟨_, .slice (some ⟨p.blk, p.off + off, none⟩) (len + (m + 1)) scap, _, _, by simp only [Sem.run_bind, hrunA, Result.andThen_ok]; rfl, .inl rfl, hE, hI', .inr ⟨_, _, _, fe hI hnid _, rfl, hroom, rfl, fun _ => ⟨rfl, ?_⟩⟩, fun j hj => ep hI hnid _ (.own ((cs.drop off).take (len * es) ++ new)) j (fun b hb => hj b (by simp at hb ⊢; exact .inr hb))⟩
         simpa using hfit
        ·
         have hfit := growslice_fits (need := len + (m + 1)) (old := scap) (bytes := by_) (by omega) k2
         have g1 : ¬ 9223372036854775807 < ((len : Int) + ((m : Int) + 1)) := by omega
         have g2 : ¬ 281474976710656 < Builtin.nextslicecap (len + (m + 1)) scap * by_ := by omega
         obtain ⟨hE0, hI0⟩ := Inv.kO hI hH h1' rfl .dead (w' := w.drew) rfl (fun _ _ => rfl) rfl rfl rfl (fun _ => Nat.le_succ _) (fun _ => trivial)
         have hlen := RvL.length _ _ husR
         have hfo := df (P := P) (cap := scap) (a := some b) w.drew o1 (fun e => by cases e) (oldcell w.drew (fun _ => by simp))
         have hol := RvL.length _ _ o2
         have htk : (os.toArray ++ us.toArray ++ Builtin.zeroCells zv.cells (grownCap w (len + (m + 1)) scap e - (len + (m + 1)))).toList.take ((cs.drop off).take (len * es) ++ new).length = os ++ us := by
          simp only [Array.toList_append, List.length_append]
          rw [<- hol, <- hlen, <- List.length_append, List.take_left]
         obtain ⟨hE, hI'⟩ := mR hI0 (by simpa using hnid) hf0 ((cs.drop off).take (len * es) ++ new) (os.toArray ++ us.toArray ++ Builtin.zeroCells zv.cells (grownCap w (len + (m + 1)) scap e - (len + (m + 1)))) e
          (by rw [htk]; exact RvL.ext hE0 _ _ (RvL.append _ _ _ _ o2 husR)) (by
           rw [htk]; intro u hu
           rcases List.mem_append.1 hu with hu | hu
           · exact o3 u hu
           · exact hus1 u hu)
         have hge : len + (m + 1) <= grownCap w (len + (m + 1)) scap e := by simp [grownCap, Question.cut]
         have e0 : (grownCap w (len + (m + 1)) scap e - (len + (m + 1))) * es + (len * es + (m + 1) * es) = grownCap w (len + (m + 1)) scap e * es := by
          rw [<- Nat.add_mul, <- Nat.add_mul]; congr 1; omega
         have hupd : aO H [(i', .dead), (nid, .own ((cs.drop off).take (len * es) ++ new))] = aO (H.set i' .dead) [(nid, .own ((cs.drop off).take (len * es) ++ new))] := by simp [aO, upd, aE hH]
         rw [<- hupd] at hE hI'
         refine ⟨_, .slice (some ⟨w.heap.size, 0, none⟩) (len + (m + 1)) (grownCap w (len + (m + 1)) scap e), _, _, ?_, .inl rfl, hE0.trans hE, hI', .inr ⟨_, _, _, fe hI hnid _, rfl, hge, rfl, fun _ => ⟨rfl, ?_⟩⟩, fun j hj => ep hI hnid _ (.own ((cs.drop off).take (len * es) ++ new)) j (fun b hb => hj b (by simp at hb ⊢; exact .inr hb))⟩
         · simp [Builtin.append_, run_underlying ht, run_underlying ht', sizeOf, typeInfo, zeroValue, hi, hzv, Builtin.lenOf, hsz, hbs, g1, g2, hroom, Question.forced, hfo, hfd, newRow, grownCap]
           congr 2
           apply Array.ext'
           simp [List.append_assoc]
         · simp only [Array.size_append, List.size_toArray, o1, hul, size_zeroCells, hzsz]
           omega
      · cases h
    ·
     rename_i rs hH
     split at h
     · rename_i hcond
       simp only [Bool.and_eq_true, decide_eq_true_eq] at hcond
       obtain ⟨⟨⟨⟨⟨⟨rfl, rfl⟩, rfl⟩, k1⟩, k2⟩, k3⟩, _⟩ := hcond
       cases h
       have hul1 : us.length = m + 1 := by omega
       have hlen := RvL.length _ _ husR
       have hzsz : zv.cells.size = 1 := by simpa using hzl
       have hupd : aO H [(i', .dead), (nid, .rows (rs.take len ++ new.map .av))] = upd (H.set i' .dead) nid (.rows (rs.take len ++ new.map .av)) := by simp [aO, upd, aE hH]
       have noRow : ∀ {k len' es' : Nat} {cs' : List AV}, (rs.take len ++ new.map RC.av)[k]? = some (.row len' es' cs') -> rs[k]? = some (.row len' es' cs') := by
        intro k len' es' cs' h
        by_cases hk : k < (rs.take len).length
        · rw [List.getElem?_append_left hk, List.getElem?_take] at h
          split at h
          · exact h
          · cases h
        · rw [List.getElem?_append_right (by omega), List.getElem?_map] at h
          cases hn : new[k - (rs.take len).length]? with
          | none => rw [hn] at h; cases h
          | some z => rw [hn] at h; cases h
       have cells : ∀ (w' : World) (mu' : Nat -> Prop) (Z' : List (Option PB)) (os : List Value) (ss : Nat -> Option (Nat × Nat × Nat)) (nb no : Nat), Ext B w w' (aH out Z H) mu' Z Z' -> os.length = len ->
         (∀ j u, os[j]? = some u -> ∃ x, rs[j]? = some x /\ RcV w (aH out Z H) Z (ss j) x u) -> (∀ k len es cs q, rs[k]? = some (RC.row len es cs) -> ss k = some q -> w'.heap[q.1]? = w.heap[q.1]?) ->
         (∀ j u, (os ++ us)[j]? = some u -> w'.cell? ⟨nb, no + j, none⟩ = some u) -> RvW w' mu' Z' (rs.take len ++ new.map .av) ss nb no := by
        intro w' mu' Z' os ss nb no hE hol hos hq hc
        refine RvW.of _ _ _ _ fun k x hk => ?_
        by_cases hkl : k < len
        · have hkt : k < (rs.take len).length := by simp; omega
          rw [List.getElem?_append_left hkt, List.getElem?_take, if_pos hkl] at hk
          obtain ⟨u, hu⟩ : ∃ u, os[k]? = some u := ⟨os[k], geT (by omega)⟩
          obtain ⟨x', x1, x2⟩ := hos k u hu
          rw [hk] at x1; cases x1
          refine ⟨u, hc k u (by rw [List.getElem?_append_left (by omega)]; exact hu), x2.ext hE fun len es cs q e1 e2 => ?_⟩
          subst e1
          exact hq k len es cs q hk e2
        · have hlt : (rs.take len).length = len := by simp; omega
          rw [List.getElem?_append_right (by omega), hlt, List.getElem?_map] at hk
          cases hn : new[k - len]? with
          | none => rw [hn] at hk; cases hk
          | some A =>
           rw [hn] at hk; cases hk
           obtain ⟨u, u1, u2⟩ := RvL.get _ _ _ _ husR hn
           exact ⟨u, hc k u (by rw [List.getElem?_append_right (by omega), hol]; exact u1), hus1 u (List.mem_of_getElem? u1), Rv.ext hE A u u2⟩
       rcases hs with ⟨rfl, rfl⟩ | ⟨p, b, scap, h1', rfl, h2, hsp, h3⟩
       ·
        have hfit := growslice_fits (need := m + 1) (old := 0) (bytes := by_) (by omega) (by simpa using k2)
        have g1 : ¬ 9223372036854775807 < ((m : Int) + 1) := by omega
        have g2 : ¬ 281474976710656 < Builtin.nextslicecap (m + 1) 0 * by_ := by omega
        obtain ⟨hE0, hI0⟩ := hI.kill i' (w' := w.drew) rfl rfl rfl rfl (fun _ => Nat.le_succ _)
        have hox : ∀ b', (Blk.rows (rs.take 0 ++ new.map .av)).owns ⟨w.heap.size, 0, (us.toArray ++ Builtin.zeroCells zv.cells (grownCap w (m + 1) 0 e - (m + 1))).size, fun _ => none⟩ b' -> w.heap.size = b' := by
         rintro b' (h | ⟨k, l', e', c', q, _, h, _⟩)
         · exact h
         · cases h
        have hEa := lg hI0 (.cells (us.toArray ++ Builtin.zeroCells zv.cells (grownCap w (m + 1) 0 e - (m + 1))) e) (.rows (rs.take 0 ++ new.map .av)) ⟨w.heap.size, 0, (us.toArray ++ Builtin.zeroCells zv.cells (grownCap w (m + 1) 0 e - (m + 1))).size, fun _ => none⟩ rfl (by simpa using hnid) hf0 hox
        have hIa := hI0.alloc (.cells (us.toArray ++ Builtin.zeroCells zv.cells (grownCap w (m + 1) 0 e - (m + 1))) e) (.rows (rs.take 0 ++ new.map .av)) ⟨w.heap.size, 0, (us.toArray ++ Builtin.zeroCells zv.cells (grownCap w (m + 1) 0 e - (m + 1))).size, fun _ => none⟩ rfl (by simpa using hnid) hf0
         ⟨⟨_, e, (by show (w.heap.push _)[w.heap.size]? = _; simp), rfl⟩, cells _ _ _ [] (fun _ => none) _ _ (hE0.trans hEa) rfl (fun j u h => by simp at h) (fun k l' e' c' q _ h => by cases h) (fun j u hj => by
          show ((w.drew.alloc _).cell? ⟨w.drew.heap.size, 0 + j, none⟩) = some u
          rw [Nat.zero_add, World.cell?_alloc_new]
          have hj : us[j]? = some u := by simpa using hj
          have := aE hj
          simp [Array.getElem?_append, this, hj]
          simpa using (List.getElem?_eq_some_iff.1 hj).2), And.intro (fun k l' e' c' q _ h => by cases h) (fun k k' l' e' l2 e2 c' c2 q q' _ _ _ h => by cases h)⟩ hox
        rw [<- hupd] at hEa hIa
        have hge : m + 1 <= grownCap w (m + 1) 0 e := by simp [grownCap, Question.cut]
        refine ⟨_, .slice (some ⟨w.heap.size, 0, none⟩) (m + 1) (grownCap w (m + 1) 0 e), _, _, ?_, .inl rfl, hE0.trans hEa, hIa, .inr ⟨_, ⟨w.heap.size, 0, none⟩, grownCap w (m + 1) 0 e, fe hI hnid _, by rw [Nat.zero_add], by rw [Nat.zero_add]; exact hge, rfl, fun _ => ⟨rfl, ?_⟩⟩, fun j hj => ep hI hnid _ (.rows (rs.take 0 ++ new.map .av)) j (fun b hb => hj b (by simp at hb ⊢; exact .inr hb))⟩
        · simp [Builtin.append_, run_underlying ht, run_underlying ht', sizeOf, typeInfo, zeroValue, hi, hzv, Builtin.lenOf, hsz, hbs, g1, g2, Question.forced, run_firstCells_none, hfd, newRow, grownCap]
        · simp only [Array.size_append, List.size_toArray, hul1, size_zeroCells, hzsz]
          omega
       obtain ⟨⟨c, te, hheap, hcs⟩, hC, hS1, hS2⟩ := hI.ok i' _ p hH h1'
       obtain ⟨os, o1, o3, o4⟩ := RvW.Ed hC len k1
       have oldcell : ∀ (w' : World), (∀ ad, w'.cell? ad = w.cell? ad) -> ∀ b', some b = some b' -> ∀ j u, os[j]? = some u -> w'.cell? (b'.add j) = some u := by
        intro w' hw' b' hb' j u hj
        cases hb'
        rw [hw']
        by_cases hcap : 0 < scap
        · rw [(h3 hcap).1, dF]; exact (o4 j u hj).1
        · have : os.length = 0 := by omega
          rw [List.length_eq_zero_iff] at this
          subst this; simp at hj
       by_cases hroom : len + (m + 1) <= scap
       ·
        obtain ⟨hb', hfit⟩ := h3 (by omega)
        subst hb'
        have hK : p.off + 0 + len * 1 + us.length <= c.size := by omega
        have hst := run_storeCells_at P p.blk (p.off + 0 + len * 1) te us 0 c w hheap (by simpa using hK) hus1
        simp only [Nat.add_zero] at hst
        have hrunA : (Builtin.append_ #[t, t'] ty #[.slice (some ⟨p.blk, p.off + 0, none⟩) len scap, .slice a (m + 1) cap]).run P w =
          .ok (.slice (some ⟨p.blk, p.off + 0, none⟩) (len + (m + 1)) scap) (w.setRow p.blk (c.toList.take (p.off + len * 1) ++ us ++ c.toList.drop (p.off + len * 1 + us.length)).toArray) := by
         simp [Builtin.append_, run_underlying ht, run_underlying ht', bG hn, Builtin.lenOf, hroom, hfc, dF]
         have hst' : (storeCells ⟨p.blk, p.off + len, none⟩ us).run P w = .ok () (w.setRow p.blk (c.toList.take (p.off + len) ++ (us ++ c.toList.drop (p.off + len + us.length))).toArray) := by simpa using hst
         rw [hst']; rfl
        obtain ⟨hE, hI'⟩ := hI.grow hH h1' rfl (.rows (rs.take len ++ new.map .av)) ⟨p.blk, p.off, p.size, p.subs⟩ rfl hnid hf0 (w' := w.setRow p.blk (c.toList.take (p.off + len * 1) ++ us ++ c.toList.drop (p.off + len * 1 + us.length)).toArray)
         (by simp) (fun b hb => by simp only [World.setRow, Array.getElem?_modify]; rw [if_neg (by omega)]) rfl rfl rfl (fun _ => Nat.le_refl _) (fun hE => by
          refine ⟨⟨_, te, setRow_heap w _ c _ te _ hheap, ?_⟩, cells _ _ _ os p.subs _ _ hE o1 (fun j u hj => (o4 j u hj).2) (fun k l' e' c' q g1 g2 => ?_) ?_, fun k l' e' c' q g1 g2 => hS1 k l' e' c' q (noRow g1) g2, fun k k' l' e' l2 e2 c' c2 q q' hkk g1 g2 g3 g4 => hS2 k k' l' e' l2 e2 c' c2 q q' hkk (noRow g1) (noRow g2) g3 g4⟩
          · simp; omega
          · have := hS1 k l' e' c' q g1 g2
            simp only [World.setRow, Array.getElem?_modify]; rw [if_neg (by omega)]
          · intro j u hj
            simp only [World.cell?, setRow_heap w _ c _ te _ hheap]
            simp only [Option.isSome_none, Bool.false_eq_true, if_false, List.getElem?_toArray]
            have hlt : (c.toList.take (p.off + len * 1)).length = p.off + len * 1 := by simp; omega
            rw [List.append_assoc]
            by_cases hjl : j < os.length
            · rw [List.getElem?_append_left hjl] at hj
              rw [List.getElem?_append_left (by rw [hlt]; omega), List.getElem?_take, if_pos (by omega)]
              have := (o4 j u hj).1
              simp only [World.cell?, hheap] at this
              simpa using this
            · rw [List.getElem?_append_right (by omega)] at hj
              rw [List.getElem?_append_right (by rw [hlt]; omega), hlt, show p.off + j - (p.off + len * 1) = j - os.length by omega]
              rw [List.getElem?_append_left (aE hj)]
              exact hj) (by
          rintro b' (h | ⟨k, l', e', c', q, g1, g2, g3⟩)
          · exact .inl h
          · exact .inr ⟨k, l', e', c', q, noRow g1, g2, g3⟩)
        rw [<- hupd] at hE hI'
        refine ⟨_, .slice (some ⟨p.blk, p.off + 0, none⟩) (len + (m + 1)) scap, _, _, by simp only [Sem.run_bind, hrunA, Result.andThen_ok]; rfl, .inl rfl, hE, hI', .inr ⟨_, _, _, fe hI hnid _, rfl, hroom, rfl, fun _ => ⟨rfl, ?_⟩⟩, fun j hj => ep hI hnid _ (.rows (rs.take len ++ new.map .av)) j (fun b hb => hj b (by simp at hb ⊢; exact .inr hb))⟩
        simpa using hfit
       ·
        have hfit := growslice_fits (need := len + (m + 1)) (old := scap) (bytes := by_) (by omega) k2
        have g1 : ¬ 9223372036854775807 < ((len : Int) + ((m : Int) + 1)) := by omega
        have g2 : ¬ 281474976710656 < Builtin.nextslicecap (len + (m + 1)) scap * by_ := by omega
        have hfo := df (P := P) (n := 1) (m := len) (cap := scap) (a := some b) w.drew (by omega) (fun e => by cases e) (oldcell w.drew (fun _ => by simp))
        obtain ⟨hE, hI'⟩ := hI.move hH h1' rfl (.rows (rs.take len ++ new.map .av)) ⟨w.heap.size, 0, (os.toArray ++ us.toArray ++ Builtin.zeroCells zv.cells (grownCap w (len + (m + 1)) scap e - (len + (m + 1)))).size, p.subs⟩ hnid hf0
         (w' := w.drew.alloc (.cells (os.toArray ++ us.toArray ++ Builtin.zeroCells zv.cells (grownCap w (len + (m + 1)) scap e - (len + (m + 1)))) e)) (by simp) (fun b' hb' _ => by simp only [World.alloc, World.drew, Array.getElem?_push]; rw [if_neg (by omega)]) rfl rfl rfl (fun _ => Nat.le_succ _) (by
          rintro b' (h | ⟨k, l', e', c', q, g1, g2, g3⟩)
          · simp only at h; subst h; right; simp
          · exact .inl (.inr ⟨k, l', e', c', q, noRow g1, g2, g3⟩)) (fun hE => by
          refine ⟨⟨_, e, (by show (w.heap.push _)[w.heap.size]? = _; simp), rfl⟩, cells _ _ _ os p.subs _ _ hE o1 (fun j u hj => (o4 j u hj).2) (fun k l' e' c' q g1 g2 => ?_) ?_, fun k l' e' c' q g1 g2 => ?_, fun k k' l' e' l2 e2 c' c2 q q' hkk g1 g2 g3 g4 => hS2 k k' l' e' l2 e2 c' c2 q q' hkk (noRow g1) (noRow g2) g3 g4⟩
          · have := (hI.baseO i' _ p q.1 hH h1' (.inr ⟨k, l', e', c', q, g1, g2, rfl⟩)).2
            simp only [World.alloc, World.drew, Array.getElem?_push]; rw [if_neg (by omega)]
          · intro j u hj
            show ((w.drew.alloc _).cell? ⟨w.drew.heap.size, 0 + j, none⟩) = some u
            rw [Nat.zero_add, World.cell?_alloc_new]
            have hjl := aE hj
            have hl : (os.toArray ++ us.toArray)[j]? = some u := by
             have e : os.toArray ++ us.toArray = (os ++ us).toArray := by simp
             rw [e, List.getElem?_toArray]; exact hj
            rw [Array.getElem?_append, if_pos (by have := (Array.getElem?_eq_some_iff.1 hl).1; exact this)]
            exact hl
          · have := (hI.baseO i' _ p q.1 hH h1' (.inr ⟨k, l', e', c', q, noRow g1, g2, rfl⟩)).2
            simp only; omega)
        have hge : len + (m + 1) <= grownCap w (len + (m + 1)) scap e := by simp [grownCap, Question.cut]
        rw [<- hupd] at hE hI'
        refine ⟨_, .slice (some ⟨w.heap.size, 0, none⟩) (len + (m + 1)) (grownCap w (len + (m + 1)) scap e), _, _, ?_, .inl rfl, hE, hI', .inr ⟨_, _, _, fe hI hnid _, rfl, hge, rfl, fun _ => ⟨rfl, ?_⟩⟩, fun j hj => ep hI hnid _ (.rows (rs.take len ++ new.map .av)) j (fun b hb => hj b (by simp at hb ⊢; exact .inr hb))⟩
        · simp [Builtin.append_, run_underlying ht, run_underlying ht', sizeOf, typeInfo, zeroValue, hi, hzv, Builtin.lenOf, hsz, hbs, g1, g2, hroom, Question.forced, hfo, hfd, newRow, grownCap]
          congr 2
          apply Array.ext'
          simp [List.append_assoc]
        · simp only [Array.size_append, List.size_toArray, o1, hul1, size_zeroCells, hzsz]
          omega
     · cases h
    · cases h
   · exact (hq ⟨_, _, _, _, _, rfl⟩).elim
   · cases h
end
def tm (P : Program) : Prop := ∀ (f : Nat) (fn : Func), P.funcs[f]? = some fn -> fn.name ≠ "runtime.NumGoroutine"
section
variable {P : Program} {out : Nat -> Prop} {B : Nat -> Prop} {w : World} {Z : List (Option PB)} {H : List Blk}
theorem vO (hI : Inv out B w Z H) {at_ : Array TypeId} {t e ty : TypeId} {n : Nat} {d x : AV} {vd vx : Value} {r : bc} (h0 : at_[0]? = some t) (ht : P.underlying t = some (.slice e)) (hn : dM P e = some n)
  (hd : Rv w (aH out Z H) Z d vd) (hx : Rv w (aH out Z H) Z x vx) (h : qR H n d x = some r) : bL P out B w Z H (do pure (.value (<- Builtin.copy_ at_ ty #[vd, vx]))) r := by
 unfold qR at h
 split at h
 · cases h
 rename_i new m hc
 obtain ⟨a, cap, rfl, hnil, hcap, us, hul, husR, hus1, hcell⟩ := iW hI hx hc
 split at h
 rotate_left
 · cases h
 rename_i i off len es
 split at h
 rotate_left
 · cases h
 rename_i cs hH
 split at h
 rotate_left
 · cases h
 rename_i hcond
 cases h
 simp only [Bool.and_eq_true, decide_eq_true_eq] at hcond
 obtain ⟨rfl, hle⟩ := hcond
 have hkm : Nat.min m len <= m := Nat.min_le_left _ _
 have hkl : Nat.min m len <= len := Nat.min_le_right _ _
 have hk1 : Nat.min m len * es <= m * es := Nat.mul_le_mul_right _ hkm
 have hk2 : Nat.min m len * es <= len * es := Nat.mul_le_mul_right _ hkl
 have hkeep : aO H [(i, .own cs)] = H := by
  simp only [aO, upd, aE hH, if_true]
  apply List.ext_getElem?
  intro j
  rw [List.getElem?_set]
  split
  · rename_i hij; subst hij; rw [if_pos (aE hH)]; exact hH.symm
  · rfl
 have hfc : ∀ k, k <= m -> (Builtin.firstCells es k (.slice a m cap)).run P w = .ok (us.take (k * es)).toArray w := by
  intro k hk
  cases a with
  | none =>
   have := hnil rfl
   subst this
   have : us = [] := by rw [<- List.length_eq_zero_iff, hul]; simp
   subst this; simp [Builtin.firstCells]
  | some b =>
   refine run_firstCells_some w es k b m cap _ ?_ fun j u hj => hcell b rfl j u ?_
   · rw [List.length_take, hul]; exact Nat.min_eq_left (Nat.mul_le_mul_right _ hk)
   · rw [List.getElem?_take] at hj
     split at hj
     · exact hj
     · cases hj
 rcases hd with ⟨rfl, rfl⟩ | ⟨p, ad, dcap, hp, rfl, hdl, hsp, hpos⟩
 ·
  have e0 : Nat.min m 0 = 0 := Nat.min_zero m
  have hf := hfc 0 (Nat.zero_le _)
  simp only [e0, Nat.zero_mul, List.take_zero, setCells] at hf ⊢
  refine ⟨.value (.int .i64 0), .int .i64 0, w, Z, ?_, .inl rfl, ?_, ?_, rfl, fun _ _ => rfl⟩
  · simp [Builtin.copy_, h0, run_underlying ht, bG hn, Builtin.lenOf, e0, hf, goInt]
  · rw [hkeep]; exact Ext.refl _ _ _
  · rw [hkeep]; exact hI
 · have hf := hfc _ hkm
   by_cases hz : Nat.min m len * es = 0
   · rw [hz] at hf
     simp only [hz, List.take_zero, setCells] at hf ⊢
     refine ⟨.value (.int .i64 (Nat.min m len : Nat)), .int .i64 (Nat.min m len : Nat), w, Z, ?_, .inl rfl, ?_, ?_, rfl, fun _ _ => rfl⟩
     · simp only [Builtin.copy_] at *
       simp [h0, run_underlying ht, bG hn, Builtin.lenOf, hf, storeCells, goInt]
     · rw [hkeep]; exact Ext.refl _ _ _
     · rw [hkeep]; exact hI
   · have hc0 : 0 < dcap := by
      rcases Nat.eq_zero_or_pos dcap with h | h
      · have : Nat.min m len = 0 := by omega
        rw [this] at hz; simp at hz
      · exact h
     obtain ⟨hpa, _⟩ := hpos hc0
     obtain ⟨ab, ao, asp⟩ := ad
     have htl : RvL w (aH out Z H) Z (new.take (Nat.min m len * es)) (us.take (Nat.min m len * es)) := RvL.take _ _ _ husR
     have hnl := RvL.length _ _ husR
     obtain ⟨w', r1, r2, r3⟩ := kp (P := P) hp (new.take (Nat.min m len * es)) (us.take (Nat.min m len * es)) 0 off cs w H hI hH htl (fun v hv => hus1 v (List.mem_of_mem_take hv)) (by rw [List.length_take]; omega)
     have hu : aO H [(i, .own (setCells cs off (new.take (Nat.min m len * es))))] = H.set i (.own (setCells cs off (new.take (Nat.min m len * es)))) := by simp [aO, upd, aE hH]
     rw [Nat.add_zero] at r2 r3
     refine ⟨.value (.int .i64 (Nat.min m len : Nat)), .int .i64 (Nat.min m len : Nat), w', Z, ?_, .inl rfl, by rw [hu]; exact r2, by rw [hu]; exact r3, rfl, fun _ _ => rfl⟩
     rw [hpa]
     simp only [Builtin.copy_] at *
     simp [h0, run_underlying ht, bG hn, Builtin.lenOf, hf, r1, goInt]
theorem rP (hI : Inv out B w Z H) {nid : Nat} (hnid : nid <= H.length) (hf0 : ∀ q, Z[nid]? ≠ some (some q)) {t t' e ty : TypeId} {kk : IntKind} {n by_ : Nat} {z : List AV} {s x : AV} {vs vx : Value} {r : bc} (ht : P.underlying t = some (.slice e)) (ht' : P.underlying t' = some (.int kk))
  (hn : dM P e = some n) (hb : kd P e = some by_) (hz : iu P e = some z) (hs : Rv w (aH out Z H) Z s vs) (hx : Rv w (aH out Z H) Z x vx) (h : oF nid n by_ z s x = some r) :
  bL P out B w Z H (do pure (.value (<- Builtin.append_ #[t, t'] ty #[vs, vx]))) r := by
 obtain ⟨zv, i, hi, hzv, hrun, rfl⟩ := kP hz w
 have hsz : i.size = n := by simpa [dM, hi] using hn
 have hbs : i.bytes = by_ := by simpa [kd, hi] using hb
 unfold oF at h
 split at h
 · rename_i k
   split at h
   · rename_i hcond
     simp only [Bool.and_eq_true, decide_eq_true_eq] at hcond
     obtain ⟨⟨⟨⟨⟨k0, k1⟩, k2⟩, k3⟩, k4⟩, k5⟩ := hcond
     cases h; cases hs; cases hx
     obtain ⟨M, rfl⟩ : ∃ M : Nat, k = (M : Int) := ⟨k.toNat, by omega⟩
     have hM : 0 < M := by omega
     have hM0 : ¬ M = 0 := by omega
     have hk : ((M : Int)).toNat = M := by omega
     rw [hk] at k2 ⊢
     have hfit := growslice_fits (need := M) (old := 0) (bytes := by_) (by omega) k2
     have g1 : ¬ 9223372036854775807 < (M : Int) := by omega
     have g2 : ¬ 281474976710656 < Builtin.nextslicecap M 0 * by_ := by omega
     have hw : IntKind.i64.wrap ((M : Int)) = (M : Int) := by
      simp [IntKind.wrap, IntKind.bits, IntKind.signed]; omega
     have g3 : ¬ (2 : Int) ^ 48 < (M : Int) * (by_ : Int) := by
      rw [<- Int.natCast_mul]; omega
     obtain ⟨hE0, hI0⟩ := hI.same (w' := w.drew) rfl rfl rfl rfl (fun _ => Nat.le_succ _)
     have hzsz : zv.cells.size = n := by simpa using k4
     have hz1 : (Builtin.zeroCells zv.cells M).toList = (List.replicate M zv.cells.toList).flatten := jI zv.cells M (by omega)
     have hrv : ∀ (w0 : World) (mu0 : Nat -> Prop) (Z0 : List (Option PB)), RvL w0 mu0 Z0 (cN (zv.cells.toList.map .at) M) ((List.replicate M zv.cells.toList).flatten) := fun _ _ _ => mZ _ _
     have hlen := RvL.length _ _ (hrv w (aH out Z H) Z)
     have htk : (Builtin.zeroCells zv.cells M ++ Builtin.zeroCells zv.cells (grownCap w M 0 e - M)).toList.take (cN (zv.cells.toList.map .at) M).length = (List.replicate M zv.cells.toList).flatten := by
      rw [<- hlen, Array.toList_append, hz1, List.take_left']
      rfl
     obtain ⟨hE, hI'⟩ := mR hI0 hnid hf0 (cN (zv.cells.toList.map .at) M) (Builtin.zeroCells zv.cells M ++ Builtin.zeroCells zv.cells (grownCap w M 0 e - M)) e (by rw [htk]; exact hrv _ _ _) (by rw [htk]; exact ij (all_zero k5) _)
     have hge : M <= grownCap w M 0 e := by simp [grownCap, Question.cut]
     have e0 : (grownCap w M 0 e - M) * n + M * n = grownCap w M 0 e * n := by rw [<- Nat.add_mul]; congr 1; omega
     refine ⟨_, .slice (some ⟨w.heap.size, 0, none⟩) M (grownCap w M 0 e), _, _, ?_, .inl rfl, hE0.trans hE, hI', .inr ⟨_, _, _, fe hI hnid _, rfl, hge, rfl, fun _ => ⟨rfl, ?_⟩⟩, ep hI hnid _ _⟩
     · have hns : ¬ M * n = 0 := by
        intro h0; rcases Nat.mul_eq_zero.1 h0 with h0 | h0 <;> omega
       have hn0 : ¬ n = 0 := by omega
       have g3' : ¬ 281474976710656 < (M : Int) * (by_ : Int) := by rw [<- Int.natCast_mul]; omega
       have g4 : M <= 9223372036854775807 := by omega
       have hl0 : ¬ (M : Int) < 0 := by omega
       simp only [Builtin.append_]
       simp [run_underlying ht, run_underlying ht', sizeOf, typeInfo, zeroValue, hi, hzv, asInt, asIntOf, hw, hl0, g3', hM0, hn0, g4, hsz, hbs, g1, g2, hns, Question.forced, run_firstCells_none, newRow, grownCap]
     · simp only [Array.size_append, size_zeroCells, hzsz]
       omega
   · cases h
 · cases h
theorem tS (hI : Inv out B w Z H) {at_ : Array TypeId} {t e ty : TypeId} {n : Nat} {z : List AV} {d : AV} {vd : Value} {r : bc} (h0 : at_[0]? = some t) (ht : P.underlying t = some (.slice e)) (hn : dM P e = some n) (hz : iu P e = some z)
  (hd : Rv w (aH out Z H) Z d vd) (h : n5 H n z d = some r) : bL P out B w Z H (do pure (.value (<- Builtin.clear_ at_ ty #[vd]))) r := by
 obtain ⟨zv, i0, hi, hzv, hrun, rfl⟩ := kP hz w
 unfold n5 at h
 split at h
 rotate_left
 · cases h
 rename_i i off len es
 split at h
 rotate_left
 · cases h
 rename_i cs hH
 split at h
 rotate_left
 · cases h
 rename_i hcond
 cases h
 simp only [Bool.and_eq_true, decide_eq_true_eq] at hcond
 obtain ⟨⟨⟨⟨rfl, hle⟩, hzl⟩, hcell⟩, hpos0⟩ := hcond
 have hkeep : aO H [(i, .own cs)] = H := by
  simp only [aO, upd, aE hH, if_true]
  apply List.ext_getElem?
  intro j
  rw [List.getElem?_set]
  split
  · rename_i hij; subst hij; rw [if_pos (aE hH)]; exact hH.symm
  · rfl
 have hzs : zv.cells.size = es := by simpa using hzl
 rcases hd with ⟨rfl, rfl⟩ | ⟨p, ad, dcap, hp, rfl, hdl, hsp, hpos⟩
 · simp only [cN, setCells]
   refine ⟨.value (.tuple #[]), .tuple #[], w, Z, ?_, .inl rfl, ?_, ?_, rfl, fun _ _ => rfl⟩
   · simp [Builtin.clear_, h0, run_underlying ht]
   · rw [hkeep]; exact Ext.refl _ _ _
   · rw [hkeep]; exact hI
 · cases len with
   | zero =>
    simp only [cN, setCells]
    refine ⟨.value (.tuple #[]), .tuple #[], w, Z, ?_, .inl rfl, ?_, ?_, rfl, fun _ _ => rfl⟩
    · simp [Builtin.clear_, h0, run_underlying ht]
    · rw [hkeep]; exact Ext.refl _ _ _
    · rw [hkeep]; exact hI
   | succ m =>
    have hc0 : 0 < dcap := by omega
    obtain ⟨hpa, _⟩ := hpos hc0
    obtain ⟨ab, ao, asp⟩ := ad
    have hz1 : (Builtin.zeroCells zv.cells (m + 1)).toList = (List.replicate (m + 1) zv.cells.toList).flatten := jI zv.cells (m + 1) (by omega)
    have htl : RvL w (aH out Z H) Z (cN ((zv.cells.toList.map .at).map wkN) (m + 1)) ((List.replicate (m + 1) zv.cells.toList).flatten) := qX _ _
    have hnl := RvL.length _ _ htl
    have hzlen : (cN ((zv.cells.toList.map .at).map wkN) (m + 1)).length = (m + 1) * es := by rw [<- hnl, <- hz1, Array.length_toList, size_zeroCells, hzs]
    obtain ⟨w', r1, r2, r3⟩ := kp (P := P) hp (cN ((zv.cells.toList.map .at).map wkN) (m + 1)) ((List.replicate (m + 1) zv.cells.toList).flatten) 0 off cs w H hI hH htl (ij (all_zero hcell) _) (by omega)
    have hu : aO H [(i, .own (setCells cs off (cN ((zv.cells.toList.map .at).map wkN) (m + 1))))] = H.set i (.own (setCells cs off (cN ((zv.cells.toList.map .at).map wkN) (m + 1)))) := by simp [aO, upd, aE hH]
    rw [Nat.add_zero] at r2 r3
    refine ⟨.value (.tuple #[]), .tuple #[], w', Z, ?_, .inl rfl, by rw [hu]; exact r2, by rw [hu]; exact r3, rfl, fun _ _ => rfl⟩
    rw [hpa]
    rw [<- hz1] at r1
    simp [Builtin.clear_, h0, run_underlying ht, hrun, r1]
theorem tc (hng : tm P) {f : FuncId} (h : qJ P f = true) (args : Array Value) (w : World) : (callFunc f args).run P w = .ok (.enter f args) w := by
 unfold qJ at h
 split at h
 · rename_i fn hf
   have hn := hng f fn hf
   have hb : ¬ fn.body = none := by intro e; simp [e] at h
   simp [callFunc, hf, hn, hb]
 · cases h
theorem qA (hI : Inv out B w Z H) {nid : Nat} (hnid : nid <= H.length) (hf0 : ∀ q, Z[nid]? ≠ some (some q)) {b : Builtin} {at_ : Array TypeId} {ty : TypeId} {consts : Array Bool} {args : List AV} {vs : List Value} {r : bc} (hv : RvL w (aH out Z H) Z args vs) (h : jr P H nid b at_ ty args = some r) :
  bL P out B w Z H (builtin b at_ ty consts vs.toArray) r := by
 unfold jr at h
 split at h
 · rename_i x
   obtain ⟨v, vs', rfl, hx, rfl⟩ := hv
   split at h
   · rename_i t ht
     split at h
     rotate_left
     · refine fT h fun A hA => ?_
       unfold yC at hA
       split at hA
       · rename_i i hu hxx
         split at hA
         · rename_i es hH
           cases hA
           obtain ⟨p, hp, rfl⟩ := hx
           obtain ⟨a, ha, hr⟩ := hI.ok i _ p hH hp
           have hl := RvM.len es a.toList 0 hr
           exact bL.value (v := .int .i64 (a.size : Nat)) (by simp [Builtin.len_, ht, run_underlying hu, goInt, Go.MapKept.run_getObj_map ha]) (by
            have : a.size = es.length := by simpa using hl
            rw [this]; rfl)
         · cases hA
       · cases hA
     rename_i A hA
     cases h
     have : ∃ u, (Builtin.len_ at_ ty #[v]).run P w = .ok u w /\ Rv w (aH out Z H) Z A u := by
      unfold Cn at hA
      split at hA
      · rename_i e nl cs len hu
        cases hA
        rcases hx with ⟨_, rfl, _, rfl⟩ | ⟨b, o, cap, rfl, _⟩ | ⟨rfl, _, a, cap, rfl⟩
        rotate_left 2
        · exact ⟨.int .i64 0, by simp [Builtin.len_, ht, run_underlying hu, goInt], rfl⟩
        · exact ⟨.int .i64 0, by simp [Builtin.len_, ht, run_underlying hu, goInt], rfl⟩
        · exact ⟨.int .i64 len, by simp [Builtin.len_, ht, run_underlying hu, goInt], rfl⟩
      · rename_i e b off len es hu
        cases hA
        rcases hx with ⟨rfl, rfl⟩ | ⟨p, a, cap, _, rfl, _⟩
        · exact ⟨.int .i64 0, by simp [Builtin.len_, ht, run_underlying hu, goInt], rfl⟩
        · exact ⟨.int .i64 len, by simp [Builtin.len_, ht, run_underlying hu, goInt], rfl⟩
      · rename_i e hu
        cases hA; cases hx
        exact ⟨.int .i64 0, by simp [Builtin.len_, ht, run_underlying hu, goInt], rfl⟩
      · rename_i s hu
        cases hA; cases hx
        exact ⟨.int .i64 s.size, by simp [Builtin.len_, ht, run_underlying hu, goInt], rfl⟩
      · rename_i y n e hu
        cases hA
        exact ⟨.int .i64 n, by simp [Builtin.len_, ht, run_underlying hu, goInt], rfl⟩
      · cases hA
     obtain ⟨u, h1, h2⟩ := this
     exact bL.value h1 h2
   · cases h
 · rename_i s x
   obtain ⟨v, vs', rfl, hs, u, vs'', rfl, hx, rfl⟩ := hv
   split at h
   · rename_i t t' h1 h2
     split at h
     · rename_i e e' hu hu'
       split at h
       · rename_i n by_ z hn hb hz
         split at h
         · rename_i hzl
           have := tt hI hnid hf0 (ty := ty) hu hu' hn hb hz (by simpa using hzl) hs hx h
           have e1 : (Builtin.append_ at_ ty #[v, u]).run P = (Builtin.append_ #[t, t'] ty #[v, u]).run P := by
            funext w
            simp only [Builtin.append_, h1, h2]
            rfl
           have e2 : (do pure (Next.value (<- Builtin.append_ at_ ty #[v, u])) : Sem Next).run P = (do pure (Next.value (<- Builtin.append_ #[t, t'] ty #[v, u])) : Sem Next).run P := by
            funext w; simp only [Sem.run_bind, e1]
           cases r with
           | pure A => obtain ⟨nx, y, k1, k2⟩ := this; exact ⟨nx, y, by rw [<- e2] at k1; exact k1, k2⟩
           | eff A H' => obtain ⟨nx, y, w', Z', k1, k2⟩ := this; exact ⟨nx, y, w', Z', by rw [<- e2] at k1; exact k1, k2⟩
           | call f as => obtain ⟨y, k1, k2⟩ := this; exact ⟨y, by rw [<- e2] at k1; exact k1, k2⟩
         · cases h
       · cases h
     · rename_i e kk hu hu'
       split at h
       · rename_i n by_ z hn hb hz
         have := rP hI hnid hf0 (ty := ty) hu hu' hn hb hz hs hx h
         have e1 : (Builtin.append_ at_ ty #[v, u]).run P = (Builtin.append_ #[t, t'] ty #[v, u]).run P := by
          funext w
          simp only [Builtin.append_, h1, h2]
          rfl
         have e2 : (do pure (Next.value (<- Builtin.append_ at_ ty #[v, u])) : Sem Next).run P = (do pure (Next.value (<- Builtin.append_ #[t, t'] ty #[v, u])) : Sem Next).run P := by
          funext w; simp only [Sem.run_bind, e1]
         cases r with
         | pure A => obtain ⟨nx, y, k1, k2⟩ := this; exact ⟨nx, y, by rw [<- e2] at k1; exact k1, k2⟩
         | eff A H' => obtain ⟨nx, y, w', Z', k1, k2⟩ := this; exact ⟨nx, y, w', Z', by rw [<- e2] at k1; exact k1, k2⟩
         | call f as => obtain ⟨y, k1, k2⟩ := this; exact ⟨y, by rw [<- e2] at k1; exact k1, k2⟩
       · cases h
     · cases h
   · cases h
 · rename_i d x
   obtain ⟨v, vs', rfl, hs, u, vs'', rfl, hx, rfl⟩ := hv
   split at h
   · rename_i t h1
     split at h
     · rename_i e hu
       split at h
       · rename_i n hn
         exact vO hI h1 hu hn hs hx h
       · cases h
     · cases h
   · cases h
 · rename_i d
   obtain ⟨v, vs', rfl, hs, rfl⟩ := hv
   split at h
   · rename_i t h1
     split at h
     · rename_i e hu
       split at h
       · rename_i n z hn hz
         exact tS hI h1 hu hn hz hs h
       · cases h
     · cases h
   · cases h
 · split at h
   · rename_i us hus
     have := jQ args vs us hv hus
     subst this
     split at h
     · rename_i y hy
       cases h
       exact bL.value (eJ hy w) rfl
     · cases h
   · cases h
 · split at h
   · rename_i us hus
     have := jQ args vs us hv hus
     subst this
     split at h
     · rename_i y hy
       cases h
       exact bL.value (eJ hy w) rfl
     · cases h
   · cases h
 · split at h
   · rename_i us hus
     have := jQ args vs us hv hus
     subst this
     split at h
     · rename_i y hy
       cases h
       exact bL.value (eJ hy w) rfl
     · cases h
   · cases h
 · cases h
theorem gJ (hng : tm P) (hI : Inv out B w Z H) {nid : Nat} (hnid : nid <= H.length) (hf0 : ∀ q, Z[nid]? ≠ some (some q)) {ρ : Operand -> AV} {ρc : Operand -> Value} (hρ : ∀ x, Rv w (aH out Z H) Z (ρ x) (ρc x)) {o : Oper} {r : bc} (h : evalOp P ρ H nid o = some r) :
  bL P out B w Z H (execOp ρc o) r := by
 unfold evalOp at h
 unfold execOp
 cases hop : o.op <;> simp only [hop, rl, mX, sG, og, gF, oy, kf, lu, iv, oP, o9, jf] at h ⊢
 case move x => cases h; exact ⟨_, _, rfl, .inl rfl, hρ x⟩
 case «assign» x => cases h; exact ⟨_, _, rfl, .inl rfl, hρ x⟩
 case pick c a b =>
  split at h
  · rename_i t hc
    cases h
    have hcv : ρc c = .bool t := by have := hρ c; rw [hc] at this; exact this
    refine ⟨_, if t then ρc a else ρc b, ?_, .inl rfl, vP (hρ a) (hρ b)⟩
    simp [hcv, asBool]
  · cases h
 case alloc t =>
  split at h
  · rename_i z hz
    split at h
    · rename_i h1; cases h; exact vo hI hnid hf0 hz h1
    · cases h
  · cases h
 case box t x =>
  split at h
  · rename_i h1; cases h; exact xV hI hnid hf0 (hρ x) h1
  · cases h
 case build t parts =>
  split at h
  · rename_i z fs hz hu
    split at h
    · rename_i pl hpl
      split at h
      · rename_i h1
        split at h
        · rename_i cs hcs
          cases h
          obtain ⟨u, r1, r2⟩ := n4 (w := w) (Z := Z) hρ hu hz hpl h1 hcs
          exact bL.value r1 r2
        · cases h
      · cases h
    · cases h
  · rename_i z len e hz hu
    split at h
    · rename_i n hn
      split at h
      · rename_i h1
        split at h
        · rename_i cs hcs
          cases h
          obtain ⟨u, r1, r2⟩ := oJ (w := w) (Z := Z) hρ hu hz hn h1 hcs
          exact bL.value r1 r2
        · cases h
      · cases h
    · cases h
  · cases h
 case buildSlice t len parts =>
  split at h
  · rename_i e hu
    split at h
    · rename_i n z hn hz
      split at h
      · rename_i hc
        simp only [Bool.and_eq_true, decide_eq_true_eq] at hc
        split at h
        · rename_i cs hcs
          cases h
          exact pG hI hnid hf0 hρ hu hn hz hc.1.1 hc.1.2 hc.2 hcs
        · cases h
      · cases h
    · cases h
  · cases h
 case load t a =>
  refine fT h fun A hA => ?_
  obtain ⟨u, r1, r2⟩ := pH hI (hρ a) hA
  exact bL.value r1 r2
 case store t a x =>
  split at h
  · rename_i H' hH'
    cases h
    obtain ⟨w', r1, r2, r3⟩ := tF hI (hρ a) (hρ x) hH'
    exact ⟨.skip, undef, w', Z, by simp [r1], .inr ⟨rfl, rfl⟩, r2, r3, trivial, fun _ _ => rfl⟩
  · cases h
 case nilCheck x =>
  have hx := hρ x
  split at h
  · rename_i b off hb
    cases h
    rw [hb] at hx
    have hx' := hx
    obtain ⟨p, _, hp⟩ := hx
    refine ⟨_, ρc x, ?_, .inl rfl, hx'⟩
    rw [hp]; rfl
  · rename_i cs off hb
    cases h
    rw [hb] at hx
    have hx' := hx
    obtain ⟨b, o, hp, _⟩ := hx
    refine ⟨_, ρc x, ?_, .inl rfl, hx'⟩
    rw [hp]; rfl
  · rename_i f a c hb
    cases h
    rw [hb] at hx
    have hx' := hx
    obtain ⟨fs, cs, hp, _⟩ := hx
    refine ⟨_, ρc x, ?_, .inl rfl, hx'⟩
    rw [hp]; rfl
  · cases h
 case binOp op t x y yt =>
  refine fT h fun A hA => ?_
  obtain ⟨u, r1, r2⟩ := tB (P := P) (hρ x) (hρ y) hA
  exact bL.value r1 r2
 case unOp op t x => exact qK (hρ x) (fun a b e hb => by subst e; exact eJ hb w) h
 case convert s d x =>
  split at h
  · rename_i v hv
    cases h
    exact bL.value (uT (P := P) (w := w) (hρ x) hv) rfl
  · exact qK (hρ x) (fun a b e hb => by subst e; exact eJ hb w) h
 case makeFunc fn fs cs =>
  cases fn <;> simp only at h
  case func f =>
   cases h
   refine bL.value (v := .func (.func f) (fs.map ρc) (cs.map ρc)) rfl ⟨fs.map ρc, cs.map ρc, rfl, ?_, ?_⟩
   · rw [Array.toList_map]; exact oV hρ _
   · rw [Array.toList_map]; exact oV hρ _
  all_goals cases h
 case makeSlice t l c =>
  split at h
  · rename_i e kl il kc ic hu hl hc
    split at h
    · rename_i n by_ z hn hb hz
      split at h
      · rename_i hcond
        simp only [Bool.and_eq_true, decide_eq_true_eq] at hcond
        obtain ⟨⟨⟨⟨⟨⟨k1, k2⟩, k3⟩, k4⟩, k5⟩, k6⟩, k7⟩ := hcond
        cases h
        have e1 := mr (hρ l) hl
        have e2 := mr (hρ c) hc
        rw [e1, e2]
        exact qi hI hnid hf0 hu hn hb hz k1 k2 k3 k4 k5 k6 k7
      · cases h
    · cases h
  · cases h
 case slice t x lo hi mx =>
  cases mx with
  | some m => simp only at h; cases h
  | none =>
   have ho : ∀ y : Option Operand, Bm w (aH out Z H) Z (y.map ρ) (y.map ρc) := by
    intro y; cases y with
    | none => trivial
    | some y => exact hρ y
   simp only at h
   split at h
   · rename_i s hs
     have hx : ρc x = .string s := by have := hρ x; rw [hs] at this; exact this
     have opt : ∀ (y : Option Operand) (z : Option Value), (match y with | none => some none | some a => (toV (ρ a)).map some) = some z -> y.map ρc = z := by
      intro y z hz
      cases y with
      | none => cases hz; rfl
      | some a =>
       simp only at hz
       cases ha : toV (ρ a) with
       | none => simp [ha] at hz
       | some b => simp [ha] at hz; subst hz; simp [fw _ _ _ (hρ a) ha]
     split at h
     · rename_i l hh hl hh'
       have e1 := opt lo l hl
       have e2 := opt hi hh hh'
       split at h
       · rename_i r' hr'
         cases h
         rw [hx]
         simp only [Option.map_none]
         rw [e1, e2]
         exact bL.value (eJ hr' w) rfl
       · cases h
     · cases h
   · refine fT h fun A hA => ?_
     obtain ⟨u, r1, r2⟩ := sZ hI (hρ x) (ho lo) (ho hi) hA
     exact bL.value r1 r2
 case fieldAddr s x f =>
  refine fT h fun A hA => ?_
  obtain ⟨u, r1, r2⟩ := pf (P := P) (w := w) (hρ x) hA
  exact bL.value r1 r2
 case field s x f =>
  refine fT h fun A hA => ?_
  obtain ⟨u, r1, r2⟩ := tl (P := P) (w := w) (hρ x) hA
  exact bL.value r1 r2
 case indexAddr t x ix =>
  refine fT h fun A hA => ?_
  obtain ⟨u, r1, r2⟩ := pn (P := P) (w := w) (hρ x) (hρ ix) hA
  exact bL.value r1 r2
 case index t x ix =>
  refine fT h fun A hA => ?_
  obtain ⟨u, r1, r2⟩ := tA (P := P) (w := w) (hρ x) (hρ ix) hA
  exact bL.value r1 r2
 case extract t ix =>
  split at h
  · rename_i vs hvs
    refine fT h fun A hA => ?_
    have ht := hρ t
    rw [hvs] at ht
    obtain ⟨us, hu, hr⟩ := ht
    obtain ⟨u, r1, r2⟩ := RvL.get _ _ _ _ hr hA
    rw [hu]
    exact bL.value (v := u) (by simp [Instr.extract, <- Array.getElem?_toList, r1]) r2
  · cases h
 case makeMap t r =>
  exact qh hI hnid hf0 (by cases r with | none => trivial | some y => exact hρ y) h
 case lookup t x ix ok =>
  refine fT h fun A hA => ?_
  obtain ⟨u, r1, r2⟩ := rQ hI (hρ x) (hρ ix) hA
  exact bL.value r1 r2
 case mapUpdate t m k x => exact mh hI (hρ m) (hρ k) (hρ x) h
 case insert t m k x => exact mh hI (hρ m) (hρ k) (hρ x) h
 case mapEntry t m k => exact sz h (fun r h => rT hI (hρ m) (hρ k) h) (fun r h => rj hI (hρ m) (hρ k) h)
 case entryStore t m s x => exact sz h (fun r h => nJ hI (hρ m) (hρ s) (hρ x) h) (fun r h => nj hI (hρ m) (hρ s) (hρ x) h)
 case range t x => exact rM hI hnid hf0 (hρ x) h
 case entry it => exact oc hI (hρ it) h
 case call c =>
  cases hcal : c.callee <;> simp only [hcal] at h
  case value f =>
   split at h
   · rename_i g fs cs hf
     split at h
     · rename_i hc
       cases h
       have hfv := hρ f
       rw [hf] at hfv
       obtain ⟨a, b, e1, h1, h2⟩ := hfv
       refine ⟨a ++ c.args.map ρc ++ b, ?_, ?_⟩
       · simp [resolve, hcal, e1, Deferred.ofValue, invoke, tc hng hc]
       · simp only [Array.toList_append, Array.toList_map]
         exact RvL.append _ _ _ _ (RvL.append _ _ _ _ h1 (oV hρ _)) h2
     · cases h
   · cases h
  case builtin b =>
   have ea : (c.args.toList.map ρc).toArray = c.args.map ρc := by apply Array.ext'; simp
   have e : ∃ consts, ∀ w, (do let d <- resolve ρc c o.type; invoke d.target d.args : Sem Next).run P w = (builtin b c.argTypes o.type consts (c.args.toList.map ρc).toArray).run P w :=
    ⟨_, fun w => by rw [ea]; simp only [resolve, hcal, invoke, Sem.run_bind, Sem.run_pure, Result.andThen_ok]; rfl⟩
   obtain ⟨consts, e⟩ := e
   have := qA (consts := consts) hI hnid hf0 (oV hρ c.args.toList) h
   cases r with
   | pure A => obtain ⟨nx, y, k1, k2⟩ := this; exact ⟨nx, y, by rw [e]; exact k1, k2⟩
   | eff A H' => obtain ⟨nx, y, w', Z', k1, k2⟩ := this; exact ⟨nx, y, w', Z', by rw [e]; exact k1, k2⟩
   | call f as => obtain ⟨y, k1, k2⟩ := this; exact ⟨y, by rw [e]; exact k1, k2⟩
  case invoke => cases h
 all_goals cases h
end
end Go.Eng

