import Derived.Test.YtecdcgfclgmbpaaGreatEng3Apas
import Derived.Laws.Cover3
import Derived.Laws.Pointers
import Derived.MapKept
set_option linter.all false
namespace Go.Eng
open Go Go.RowKit
variable [Dr]
def cn (P : Program) (out : Nat -> Prop) (B : Nat -> Prop) (w : World) (π : List (Option PB)) (H : List Blk) (s : Sem Next) : bs -> Prop
 | .pure A => ∃ m v, s.run P w = .ok m w /\ (m = .value v \/ m = .skip /\ v = undef) /\ Rv w (aJ out π H) π A v
 | .eff A ws => ∃ m v w' π', s.run P w = .ok m w' /\ (m = .value v \/ m = .skip /\ v = undef) /\ Ext B w w' (aJ out π H) (aJ out π' (aM H ws)) π π' /\ Inv out B w' π' (aM H ws) /\ Rv w' (aJ out π' (aM H ws)) π' A v /\ ∀ j, (∀ b, (j, b) ∉ ws) -> π'[j]? = π[j]?
 | .call f args => ∃ vs, s.run P w = .ok (.enter f vs) w /\ RvL w (aJ out π H) π args vs.toList
section
variable {P : Program} {out : Nat -> Prop} {B : Nat -> Prop} {w : World} {π : List (Option PB)} {H : List Blk}
theorem cn.value {s : Sem Value} {A : AV} {v : Value} (h : s.run P w = .ok v w) (j : Rv w (aJ out π H) π A v) : cn P out B w π H (do pure (.value (<- s))) (.pure A) :=
 ⟨.value v, v, by simp [h], .inl rfl, j⟩
theorem iy {s : Sem Next} {o : Option AV} {r : bs} (h : bs.ofP o = some r) (hs : ∀ A, o = some A -> cn P out B w π H s (.pure A)) : cn P out B w π H s r := by
 cases o with
 | none => cases h
 | some A => cases h; exact hs A rfl
theorem vB {A : AV} {v : Value} {f : Value -> Option Value} {s : Sem Value} {r : bs} (j : Rv w (aJ out π H) π A v) (m : ∀ x y, v = x -> f x = some y -> s.run P w = .ok y w) (h : DZ f A = some r) :
  cn P out B w π H (do pure (.value (<- s))) r := by
 unfold DZ at h
 split at h
 · rename_i x hx
   split at h
   · rename_i y q
     cases h
     exact cn.value (m x y (iA A v x j hx) q) rfl
   · cases h
 · cases h
theorem A4 {t : Bool} {A j : AV} {a b : Value} (m : Rv w (aJ out π H) π A a) (q : Rv w (aJ out π H) π j b) : Rv w (aJ out π H) π (Dc t A j) (if t then a else b) := by
 unfold Dc
 split
 · cases m; cases q; cases t <;> rfl
 · cases t
   · exact q
   · exact m
theorem iR {mu : Nat -> Prop} {A : AV} {v : Value} {n : Int} (h : Rv w mu π A v) (hi : AN A = some n) : ∃ k, v = .int k n := by
 unfold AN at hi; split at hi
 · cases hi; exact ⟨_, h⟩
 · cases hi
theorem qd {mu : Nat -> Prop} {A : AV} {v : Value} {k : IntKind} {n : Int} (h : Rv w mu π A v) (hi : zT A = some (k, n)) : v = .int k n := by
 unfold zT at hi; split at hi
 · cases hi; exact h
 · cases hi
theorem um {mu : Nat -> Prop} {A j : AV} {v : Value} {n : Nat} (h : Rv w mu π A v) (hp : Cb n A = some j) : ∃ m : Addr, v = .pointer (some m) /\ Rv w mu π j (.pointer (some (m.add n))) := by
 unfold Cb at hp
 split at hp
 · cases hp; obtain ⟨p, h1, rfl⟩ := h
   exact ⟨_, rfl, p, h1, by rw [gR, Nat.add_assoc]⟩
 · cases hp; obtain ⟨b, o, rfl, h2, q⟩ := h
   exact ⟨_, rfl, b, o, by rw [gR, Nat.add_assoc], h2, q⟩
 · cases hp
theorem iW {mu : Nat -> Prop} {t : TypeId} {cs : List AV} {vs : Array Value} {off : Nat} {A : AV} (h : RvL w mu π cs vs.toList) (hp : pN P t cs off = some A) :
  ∃ v, (part t vs off).run P w = .ok v w /\ Rv w mu π A v := by
 unfold pN at hp
 split at hp
 · rename_i ha
   split at hp
   · rename_i n j
     cases hp
     refine ⟨.agg (vs.extract off (off + n)), by simp [part, uW ha, bO j], _, rfl, ?_⟩
     have := RvL.take n _ _ (RvL.drop off _ _ h)
     rw [Array.toList_extract, List.extract_eq_take_drop]
     rwa [show off + n - off = n by omega]
   · cases hp
 · rename_i ha
   obtain ⟨v, h1, h2⟩ := RvL.get _ _ _ _ h hp
   exact ⟨v, by simp [part, uW ha, <- Array.getElem?_toList, h1], h2⟩
 · cases hp
theorem yJ {s : TypeId} {x : AV} {v : Value} {f : Nat} {A : AV} {mu : Nat -> Prop} (hx : Rv w mu π x v) (h : Bf P s x f = some A) : ∃ u, (Instr.field s v f).run P w = .ok u w /\ Rv w mu π A u := by
 unfold Bf at h
 split at h
 · rename_i q cs hu
   split at h
   · rename_i fd j
     obtain ⟨vs, rfl, m⟩ := hx
     obtain ⟨u, h1, h2⟩ := iW m h
     exact ⟨u, by simp [Instr.field, run_underlying hu, j, asAgg, h1], h2⟩
   · cases h
 · rename_i q a hu
   split at h
   · rename_i fd j
     cases hx
     obtain ⟨u, h1, h2⟩ := iW (fm a.toList) h
     exact ⟨u, by simp [Instr.field, run_underlying hu, j, asAgg, h1], h2⟩
   · cases h
 · cases h
theorem yA {t : TypeId} {x q : AV} {v m : Value} {A : AV} {mu : Nat -> Prop} (hx : Rv w mu π x v) (hi : Rv w mu π q m) (h : Az P t x q = some A) : ∃ u, (Instr.index t v m).run P w = .ok u w /\ Rv w mu π A u := by
 unfold Az at h
 split at h
 · rename_i len e cs i hu he
   split at h
   · rename_i n z hb
     simp only [Bool.and_eq_true, decide_eq_true_eq] at hb
     obtain ⟨vs, rfl, C⟩ := hx
     obtain ⟨k, rfl⟩ := iR hi he
     obtain ⟨u, h1, h2⟩ := iW C h
     exact ⟨u, by simp [Instr.index, asIntOf, run_underlying hu, hb, bO z, h1], h2⟩
   · cases h
 · rename_i len e a i hu he
   split at h
   · rename_i n z hb
     simp only [Bool.and_eq_true, decide_eq_true_eq] at hb
     cases hx
     obtain ⟨k, rfl⟩ := iR hi he
     obtain ⟨u, h1, h2⟩ := iW (fm a.toList) h
     exact ⟨u, by simp [Instr.index, asIntOf, run_underlying hu, hb, bO z, h1], h2⟩
   · cases h
 · rename_i s i hu he
   have D : v = s := hx
   subst D
   split at h
   · rename_i j E
     have := iA q m j hi E
     subst this
     cases hp : gI P (Instr.index t v m) with
     | none => simp [hp] at h
     | some u => simp [hp] at h; subst h; exact ⟨u, fy hp w, rfl⟩
   · cases h
 · cases h
theorem tZ {s : TypeId} {x : AV} {v : Value} {f : Nat} {A : AV} {mu : Nat -> Prop} (hx : Rv w mu π x v) (h : rV P s x f = some A) : ∃ u, (Instr.fieldAt s v f).run P w = .ok u w /\ Rv w mu π A u := by
 unfold rV at h
 split at h
 · rename_i C hu
   split at h
   · rename_i fd j
     split at h
     · cases h
     · rename_i n m z
       obtain ⟨D, rfl, h2⟩ := um hx h
       refine ⟨_, ?_, h2⟩
       have q : ¬ n = 0 := fun e => m e
       simp [Instr.fieldAt, run_underlying hu, j, Instr.sureAddr, fieldPlace, bO z, q]
     · cases h
   · cases h
 · cases h
theorem tD {t : TypeId} {x z : AV} {v C : Value} {A : AV} {mu : Nat -> Prop} (hx : Rv w mu π x v) (hi : Rv w mu π z C) (h : rP P t x z = some A) : ∃ u, (Instr.indexAt t v C).run P w = .ok u w /\ Rv w mu π A u := by
 unfold rP at h
 split at h
 · rename_i e i hu he
   obtain ⟨k, rfl⟩ := iR hi he
   split at h
   · rename_i n nl cs len j
     split at h
     · rename_i hb
       simp only [Bool.and_eq_true, decide_eq_true_eq] at hb
       cases h
       rcases hx with ⟨_, D, _, _⟩ | ⟨b, o, cap, rfl, _, m, E⟩ | ⟨D, _⟩
       rotate_left 2
       · omega
       · omega
       · exact ⟨_, by simp [Instr.indexAt, asIntOf, run_underlying hu, hb, bO j]; rfl, b, o, by rw [gR], m, E⟩
     · cases h
   · rename_i n b off len es j
     split at h
     · rename_i hb
       simp only [Bool.and_eq_true, decide_eq_true_eq] at hb
       cases h
       rcases hx with ⟨D, _⟩ | ⟨p, a, cap, h1, rfl, h2, I, m⟩
       · omega
       have q := (m (by omega)).1
       exact ⟨_, by simp [Instr.indexAt, asIntOf, run_underlying hu, hb, bO j]; rfl, p, h1, by rw [q, gR, Nat.add_assoc]⟩
     · cases h
   · cases h
 · rename_i len e i hu he
   obtain ⟨k, rfl⟩ := iR hi he
   split at h
   · rename_i n j
     split at h
     · rename_i hb
       simp only [Bool.and_eq_true, decide_eq_true_eq] at hb
       obtain ⟨J, rfl, h2⟩ := um hx h
       exact ⟨_, by simp [Instr.indexAt, asIntOf, run_underlying hu, Instr.sureAddr, hb, bO j], h2⟩
     · cases h
   · cases h
 · cases h
theorem de {mu : Nat -> Prop} {isS : Bool} {len cap : Nat} {D hi : Option AV} {q j : Option Value} {l h : Nat} (hle : len <= cap)
  (z : match D, q with | none, none => True | some A, some v => Rv w mu π A v | _, _ => False) (m : match hi, j with | none, none => True | some A, some v => Rv w mu π A v | _, _ => False)
  (hb : oT len D hi = some (l, h)) : (Instr.sliceBounds isS len cap q j none).run P w = .ok (l, h, cap) w /\ l <= h /\ h <= len := by
 unfold oT at hb
 split at hb
 · rename_i M C e1 e2
   split at hb
   · rename_i hd
     simp only [Bool.and_eq_true, decide_eq_true_eq] at hd
     cases hb
     obtain ⟨⟨d1, d2⟩, d3⟩ := hd
     refine ⟨?_, by omega, by omega⟩
     cases D with
     | none =>
      cases q with
      | some _ => exact z.elim
      | none =>
       cases e1
       cases hi with
       | none =>
        cases j with
        | some _ => exact m.elim
        | none => cases e2; simp [Instr.sliceBounds]
       | some A =>
        cases j with
        | none => exact m.elim
        | some v =>
         obtain ⟨k, rfl⟩ := iR m e2
         have : C <= (cap : Int) := by omega
         simp [Instr.sliceBounds, Instr.sliceBound, asIntOf, this, d2]
     | some A =>
      cases q with
      | none => exact z.elim
      | some v =>
       obtain ⟨k, rfl⟩ := iR z e1
       cases hi with
       | none =>
        cases j with
        | some _ => exact m.elim
        | none => cases e2; simp [Instr.sliceBounds, Instr.sliceBound, asIntOf, d1, d2]
       | some A =>
        cases j with
        | none => exact m.elim
        | some v =>
         obtain ⟨k, rfl⟩ := iR m e2
         have I : C <= (cap : Int) := by omega
         have E : 0 <= C := by omega
         have J : (C.toNat : Int) = C := Int.toNat_of_nonneg E
         simp only [Instr.sliceBounds, Instr.sliceBound, asIntOf, Sem.run_bind, Sem.run_pure, Result.andThen_ok, Sem.run_ite, E, I, and_self, if_true, d1, J, d2]
   · cases hb
 · cases hb
end
section
variable {P : Program} {out : Nat -> Prop} {B : Nat -> Prop} {w : World} {π : List (Option PB)} {H : List Blk}
def FZ (w : World) (mu : Nat -> Prop) (π : List (Option PB)) (m : Option AV) (j : Option Value) : Prop :=
 match m, j with | none, none => True | some A, some v => Rv w mu π A v | _, _ => False
theorem x8 (hI : Inv out B w π H) {t : TypeId} {x : AV} {v : Value} {Y hi : Option AV} {I J : Option Value} {A : AV} (hx : Rv w (aJ out π H) π x v)
  (q : FZ w (aJ out π H) π Y I) (z : FZ w (aJ out π H) π hi J) (h : uf P H t x Y hi = some A) : ∃ u, (Instr.sliceAt t v I J none).run P w = .ok u w /\ Rv w (aJ out π H) π A u := by
 unfold uf at h
 split at h
 · rename_i e hu
   split at h
   · rename_i n nl cs len C
     split at h
     · rename_i l m hb
       cases h
       rcases hx with ⟨rfl, rfl, rfl, rfl⟩ | ⟨b, o, cap, rfl, hle, M, O⟩ | ⟨rfl, rfl, a, cap, rfl⟩
       · obtain ⟨r, r1, r2⟩ := de (P := P) (w := w) (isS := true) (Nat.le_refl 0) q z hb
         have e1 : m = 0 := by omega
         have e2 : l = 0 := by omega
         subst e1; subst e2
         exact ⟨.slice none 0 0, by simp [Instr.sliceAt, Instr.slice, run_underlying hu, r, bO C], .inl ⟨rfl, rfl, by simp, rfl⟩⟩
       · obtain ⟨r, r1, r2⟩ := de (P := P) (w := w) (isS := true) hle q z hb
         by_cases hc : cap = l
         · have e1 : m - l = 0 := by omega
           refine ⟨.slice (some ⟨b, o, none⟩) (m - l) (cap - l), by simp [Instr.sliceAt, Instr.slice, run_underlying hu, r, bO C]; exact fun h => (h hc).elim, .inr (.inl ⟨b, o, cap - l, rfl, by omega, ?_, ?_⟩)⟩
           · intro j; simp [e1] at j
           · simp [e1, RvC]
         · refine ⟨.slice (some ⟨b, o + l * n, none⟩) (m - l) (cap - l), by simp [Instr.sliceAt, Instr.slice, run_underlying hu, r, bO C, hc, gR], .inr (.inl ⟨b, o + l * n, cap - l, rfl, by omega, ?_, ?_⟩)⟩
           · intro j; exact M (by intro e0; subst e0; simp at j)
           · exact RvC.take _ _ _ _ (RvC.drop _ _ _ _ O)
       · obtain ⟨r, r1, r2⟩ := de (P := P) (w := w) (isS := true) (Nat.zero_le cap) q z hb
         have e1 : m = 0 := by omega
         have e2 : l = 0 := by omega
         subst e1; subst e2
         by_cases hc : cap = 0
         · exact ⟨.slice (some a) 0 0, by subst hc; simp [Instr.sliceAt, Instr.slice, run_underlying hu, r, bO C], .inr (.inr ⟨rfl, by simp, a, 0, rfl⟩)⟩
         · exact ⟨.slice (some (a.add (0 * n))) 0 cap, by simp [Instr.sliceAt, Instr.slice, run_underlying hu, r, bO C, hc], .inr (.inr ⟨rfl, by simp, _, cap, rfl⟩)⟩
     · cases h
   · rename_i n b off len es C
     split at h
     · rename_i l m hb T
       cases h
       obtain rfl : es = n := by simpa using T
       rcases hx with ⟨rfl, rfl⟩ | ⟨p, a, cap, h1, rfl, h2, U, M⟩
       · obtain ⟨r, r1, r2⟩ := de (P := P) (w := w) (isS := true) (Nat.le_refl 0) q z hb
         have e1 : m = 0 := by omega
         have e2 : l = 0 := by omega
         subst e1; subst e2
         exact ⟨.slice none 0 0, by simp [Instr.sliceAt, Instr.slice, run_underlying hu, r, bO C], .inl ⟨rfl, rfl⟩⟩
       obtain ⟨r, r1, r2⟩ := de (P := P) (w := w) (isS := true) h2 q z hb
       by_cases hc : cap = l
       · refine ⟨.slice (some a) (m - l) (cap - l), by simp [Instr.sliceAt, Instr.slice, run_underlying hu, r, bO C]; exact fun h => (h hc).elim, .inr ⟨p, a, cap - l, h1, rfl, by omega, U, by omega⟩⟩
       · have N := M (by omega)
         refine ⟨.slice (some (a.add (l * es))) (m - l) (cap - l), by simp [Instr.sliceAt, Instr.slice, run_underlying hu, r, bO C, hc], .inr ⟨p, _, cap - l, h1, rfl, by omega, by rw [N.1, gR], fun _ => ⟨?_, ?_⟩⟩⟩
         · rw [N.1, gR, Nat.add_assoc]
         · have e0 : (cap - l) * es + l * es = cap * es := by rw [<- Nat.add_mul]; congr 1; omega
           omega
     · cases h
   · rename_i n C
     split at h
     · rename_i lh hb
       cases h
       obtain rfl : v = .slice none 0 0 := hx
       obtain ⟨l, m⟩ := lh
       obtain ⟨r, r1, r2⟩ := de (P := P) (w := w) (isS := true) (Nat.le_refl 0) q z hb
       have e1 : m = 0 := by omega
       have e2 : l = 0 := by omega
       subst e1; subst e2
       exact ⟨.slice none 0 0, by simp [Instr.sliceAt, Instr.slice, run_underlying hu, r, bO C], rfl⟩
     · cases h
   · cases h
 · rename_i len e hu
   split at h
   · rename_i n b off C
     split at h
     · rename_i l m cs hb hH
       split at h
       · rename_i D
         simp only [Bool.and_eq_true, decide_eq_true_eq] at D
         cases h
         obtain ⟨p, h1, rfl⟩ := hx
         obtain ⟨r, r1, r2⟩ := de (P := P) (w := w) (isS := false) (Nat.le_refl len) q z hb
         obtain ⟨⟨c, e', E, a0⟩, hC⟩ := hI.ok b _ p hH h1
         by_cases hc : len = l
         · refine ⟨.slice (some ⟨p.blk, p.off + off, none⟩) (m - l) (len - l), by simp [Instr.sliceAt, run_underlying hu, Instr.sureAddr, r, bO C]; exact fun h => (h hc).elim, .inr ⟨p, _, len - l, h1, rfl, by omega, rfl, by omega⟩⟩
         · refine ⟨.slice (some ⟨p.blk, p.off + off + l * n, none⟩) (m - l) (len - l), by simp [Instr.sliceAt, run_underlying hu, Instr.sureAddr, r, bO C, hc, gR], .inr ⟨p, _, len - l, h1, rfl, by omega, rfl, fun _ => ⟨by rw [Nat.add_assoc], ?_⟩⟩⟩
           have j : cs ≠ [] := by
            intro e0; subst e0
            have : 0 < len * n := Nat.mul_pos (by omega) D.2
            simp at D; omega
           have a1 := RvC.bound hC E j
           have e0 : (len - l) * n + l * n = len * n := by rw [<- Nat.add_mul]; congr 1; omega
           omega
       · cases h
     · cases h
   · rename_i n cs off C
     split at h
     · rename_i l m hb
       cases h
       obtain ⟨b, o, rfl, M, O⟩ := hx
       obtain ⟨r, r1, r2⟩ := de (P := P) (w := w) (isS := false) (Nat.le_refl len) q z hb
       by_cases hc : len = l
       · have e1 : m - l = 0 := by omega
         refine ⟨.slice (some ⟨b, o + off, none⟩) (m - l) (len - l), by simp [Instr.sliceAt, run_underlying hu, Instr.sureAddr, r, bO C]; exact fun h => (h hc).elim, .inr (.inl ⟨b, o + off, len - l, rfl, by omega, ?_, ?_⟩)⟩
         · intro j; simp [e1] at j
         · simp [e1, RvC]
       · refine ⟨.slice (some ⟨b, o + off + l * n, none⟩) (m - l) (len - l), by simp [Instr.sliceAt, run_underlying hu, Instr.sureAddr, r, bO C, hc, gR], .inr (.inl ⟨b, o + off + l * n, len - l, rfl, by omega, ?_, ?_⟩)⟩
         · intro j; exact M (by intro e0; subst e0; simp at j)
         · rw [Nat.add_assoc]; exact RvC.take _ _ _ _ (RvC.drop _ _ _ _ O)
     · cases h
   · cases h
 · cases h
theorem su {mu : Nat -> Prop} {t : TypeId} {A : AV} {v x : Value} (j : Rv w mu π A v) (h : yy P t A x = true) :
  (binOp .eql t v x).run P w = .ok (.bool false) w /\ (binOp .neq t v x).run P w = .ok (.bool true) w /\ ∀ op a b, (eqGuard op t a b v x).run P w = .ok () w := by
 unfold yy at h
 split at h
 · rename_i e nl cs len hu
   rcases j with ⟨m, h1, _⟩ | ⟨b, o, cap, rfl, _⟩ | ⟨_, _, a, cap, rfl⟩
   · subst m; subst h1; simp at h
   · have he := run_equal_slice_nil (P := P) w t e (some ⟨b, o, none⟩) len cap hu
     exact ⟨by simp [binOp, he], by simp [binOp, he], fun op a b => by cases op <;> simp [eqGuard]⟩
   · have he := run_equal_slice_nil (P := P) w t e (some a) 0 cap hu
     exact ⟨by simp [binOp, he], by simp [binOp, he], fun op a b => by cases op <;> simp [eqGuard]⟩
 · rename_i e b off len es hu
   rcases j with ⟨rfl, _⟩ | ⟨p, a, cap, _, rfl, _⟩
   · simp at h
   have he := run_equal_slice_nil (P := P) w t e (some a) len cap hu
   exact ⟨by simp [binOp, he], by simp [binOp, he], fun op a b => by cases op <;> simp [eqGuard]⟩
 · rename_i e b off hu
   obtain ⟨p, _, rfl⟩ := j
   have he := run_equal_pointer_nil (P := P) w t (some ⟨p.blk, p.off + off, none⟩) (by simp [Program.pointee, hu])
   exact ⟨by simp [binOp, he], by simp [binOp, he], fun op a b => by cases op <;> simp [eqGuard]⟩
 · rename_i e cs off hu
   obtain ⟨b, o, rfl, _⟩ := j
   have he := run_equal_pointer_nil (P := P) w t (some ⟨b, o + off, none⟩) (by simp [Program.pointee, hu])
   exact ⟨by simp [binOp, he], by simp [binOp, he], fun op a b => by cases op <;> simp [eqGuard]⟩
 · cases h
theorem nK {mu : Nat -> Prop} {op : BinOp} {t : TypeId} {x y : Operand} {a b : AV} {m j : Value} {A : AV} (ha : Rv w mu π a m) (hb : Rv w mu π b j) (h : ss P op t x y a b = some A) :
  ∃ u, (do eqGuard op t x y m j; binOp op t m j : Sem Value).run P w = .ok u w /\ Rv w mu π A u := by
 unfold ss at h
 split at h
 · rename_i u v hu q
   have e1 := iA a m u ha hu
   have e2 := iA b j v hb q
   subst e1; subst e2
   split at h
   · rename_i r D
     cases h
     exact ⟨r, fy D w, rfl⟩
   · cases h
 · rename_i v hu q
   have e2 := iA b j v hb q
   subst e2
   split at h
   · rename_i z
     cases h
     obtain ⟨h1, _, C⟩ := su (P := P) ha z
     exact ⟨_, by simp [h1, C], rfl⟩
   · rename_i z
     cases h
     obtain ⟨_, h1, C⟩ := su (P := P) ha z
     exact ⟨_, by simp [h1, C], rfl⟩
   · cases h
 · cases h
theorem iX {mu : Nat -> Prop} {A : AV} {v : Value} {cs : List AV} (h : Rv w mu π A v) (hc : wW A = some cs) : ∃ vs : Array Value, v = .agg vs /\ RvL w mu π cs vs.toList := by
 unfold wW at hc
 split at hc
 · cases hc; exact h
 · cases hc
   cases h
   exact ⟨_, rfl, fm _⟩
 · cases hc
theorem rI {mu : Nat -> Prop} {E : Nat} {f : TypeId -> AV -> AV -> Option Bool} (z : ∀ t a b r m q, f t a b = some r -> Rv w mu π a m -> Rv w mu π b q -> (Op.equalIn E t m q).run P w = .ok r w) {xs ys : List AV} {vs us : Array Value} (hx : RvL w mu π xs vs.toList) (C : RvL w mu π ys us.toList) :
  ∀ (j : List Field) (r : Bool), zm P f xs ys j = some r -> (Op.eqFields E vs us j).run P w = .ok r w
 | [], r, h => by cases h; simp [Op.eqFields]
 | g :: j, r, h => by
  simp only [zm] at h
  simp only [Op.eqFields]
  split at h
  · rename_i D
    rw [if_neg (by simpa using D)]
    exact rI z hx C j r h
  · rename_i D
    rw [if_pos (by simpa using D)]
    split at h
    · rename_i a b ha hb
      obtain ⟨m, I, J⟩ := iW hx ha
      obtain ⟨q, M, b2⟩ := iW C hb
      split at h
      · rename_i r0 s N hs
        cases h
        have O := rI z hx C j s hs
        simp only [Sem.run_bind, I, M, Result.andThen_ok, z _ a b r0 m q N J b2]
        cases r0 <;> simp [O]
      · cases h
    · cases h
theorem vi {mu : Nat -> Prop} {C : Nat} {e : TypeId} {f : AV -> AV -> Option Bool} (D : ∀ a b r q z, f a b = some r -> Rv w mu π a q -> Rv w mu π b z -> (Op.equalIn C e q z).run P w = .ok r w) {n : Nat} {xs ys : List AV} {vs us : Array Value} (hx : RvL w mu π xs vs.toList) (E : RvL w mu π ys us.toList) :
  ∀ (m i : Nat) (r : Bool), AT P f e n xs ys m i = some r ->
   ((forIn (List.range' i m) ((none, ()) : Option Bool × Unit) fun j _ => do
    let a <- part e vs (j * n)
    let b <- part e us (j * n)
    let c <- Op.equalIn C e a b
    if (!c) = true then pure (.done (some false, ())) else pure (.yield (none, ())) : Sem (Option Bool × Unit)).run P w) = .ok (if r then (none, ()) else (some false, ())) w
 | 0, i, r, h => by cases h; simp
 | m + 1, i, r, h => by
  simp only [AT] at h
  split at h
  · rename_i a b ha hb
    obtain ⟨q, I, J⟩ := iW hx ha
    obtain ⟨z, M, b2⟩ := iW E hb
    split at h
    · rename_i r0 s N hs
      cases h
      have O := vi D hx E m (i + 1) s hs
      simp only [List.range'_succ, List.forIn_cons, Sem.run_bind, I, M, Result.andThen_ok, D a b r0 q z N J b2]
      cases r0
      · simp
      · simp only [Bool.not_true, Bool.false_eq_true, if_false, Sem.run_pure, Result.andThen_ok, Bool.true_and]
        exact O
    · cases h
  · cases h
theorem ni {mu : Nat -> Prop} : ∀ (d j : Nat) (t : TypeId) (a b : AV) (r : Bool) (m q : Value), d <= j -> ug P d t a b = some r -> Rv w mu π a m -> Rv w mu π b q -> (Op.equalIn j t m q).run P w = .ok r w
 | 0, _, _, _, _, _, _, _, _, h, _, _ => by cases h
 | d + 1, 0, _, _, _, _, _, _, hd, _, _, _ => by omega
 | d + 1, j + 1, t, a, b, r, m, q, hd, h, ha, hb => by
  simp only [ug] at h
  split at h
  · rename_i I hu
    split at h
    · rename_i k x k' y
      split at h
      · rename_i D
        cases h
        obtain rfl := IntKind.mz D
        cases ha; cases hb
        exact run_equalIn_int w j t _ _ x y hu
      · cases h
    · cases h
  · rename_i hu
    split at h
    · cases h; cases ha; cases hb
      exact run_equalIn_bool' w j t _ _ hu
    · cases h
  · rename_i E hu
    split at h
    · rename_i xs ys hs hx C
      obtain ⟨vs, rfl, h1⟩ := iX ha hx
      obtain ⟨us, rfl, h2⟩ := iX hb C
      have z : P.fieldsOf t = E := by unfold Program.fieldsOf; rw [hu]
      rw [run_equalIn_struct w j t vs us (by rw [z]; exact hu) hs, z]
      exact rI (fun t a b r m q h ha hb => ni d j t a b r m q (by omega) h ha hb) h1 h2 _ r h
    · cases h
  · rename_i n e hu
    split at h
    · rename_i k xs ys hs hx C
      obtain ⟨vs, rfl, h1⟩ := iX ha hx
      obtain ⟨us, rfl, h2⟩ := iX hb C
      have key := vi (n := k) (fun a b r m q h ha hb => ni d j e a b r m q (by omega) h ha hb) h1 h2 n 0 r h
      simp only [Op.equalIn, Sem.run_bind, run_underlying hu, Result.andThen_ok, bO hs, Std.Legacy.Range.forIn_eq_forIn_range', Std.Legacy.Range.size, Nat.sub_zero, Nat.add_sub_cancel, Nat.div_one]
      rw [key]
      cases r <;> simp
    · cases h
  · cases h
theorem so {mu : Nat -> Prop} {op : BinOp} {t : TypeId} {x y : Operand} {a b : AV} {j m : Value} {A : AV} (ha : Rv w mu π a j) (hb : Rv w mu π b m) (h : yN P op t a b = some A) :
  ∃ u, (do eqGuard op t x y j m; binOp op t j m : Sem Value).run P w = .ok u w /\ Rv w mu π A u := by
 unfold yN at h
 split at h
 · rename_i xs ys q hx z
   obtain ⟨vs, rfl, _⟩ := iX ha hx
   obtain ⟨us, rfl, _⟩ := iX hb z
   split at h
   · rename_i r C
     cases h
     refine ⟨.bool r, ?_, rfl⟩
     simp only [Sem.run_bind, run_eqGuard_agg w .eql t x y vs us q, Result.andThen_ok, run_eql_struct, ni 8 10000 t a b r _ _ (by omega) C ha hb]
   · cases h
 · rename_i xs ys q hx z
   obtain ⟨vs, rfl, _⟩ := iX ha hx
   obtain ⟨us, rfl, _⟩ := iX hb z
   split at h
   · rename_i r C
     cases h
     refine ⟨.bool (!r), ?_, rfl⟩
     simp only [Sem.run_bind, run_eqGuard_agg w .neq t x y vs us q, Result.andThen_ok, run_neq_struct, ni 8 10000 t a b r _ _ (by omega) C ha hb]
   · cases h
 · cases h
theorem yH {mu : Nat -> Prop} {op : BinOp} {t : TypeId} {x y : Operand} {a b : AV} {j q : Value} {A : AV} (ha : Rv w mu π a j) (hb : Rv w mu π b q) (h : tj P op t x y a b = some A) :
  ∃ u, (do eqGuard op t x y j q; binOp op t j q : Sem Value).run P w = .ok u w /\ Rv w mu π A u := by
 unfold tj at h
 split at h
 · rename_i k m k' n
   split at h
   · rename_i z
     obtain rfl := IntKind.mz z
     split at h
     · rename_i r C
       cases h; cases ha; cases hb
       exact ⟨r, yP C w, rfl⟩
     · exact nK ha hb h
   · exact nK ha hb h
 · exact so ha hb h
 · exact so ha hb h
 · exact nK ha hb h
theorem zu {mu : Nat -> Prop} {src dst : TypeId} {a : AV} {v u : Value} (ha : Rv w mu π a v) (h : DW P src dst a = some u) : (convert src dst v).run P w = .ok u w := by
 unfold DW at h
 split at h
 · split at h
   · rename_i d k hs hd
     cases h; cases ha
     simp [convert, run_underlying hs, run_underlying hd, Conv.intToInt, jy]
   · cases h
 · cases h
end
end Go.Eng


namespace Go.Eng
open Go Go.RowKit Go.MapKept
variable [Dr]
section
variable {P : Program} {out : Nat -> Prop} {B : Nat -> Prop} {w : World} {π : List (Option PB)} {H : List Blk}
theorem tl : ∀ (l j : List Value), ph l j = some true -> l = j /\ (j.zip l).all (fun (x, y) => Instr.sameBits 9999 x y) = true
 | [], [], _ => ⟨rfl, rfl⟩
 | .int k x :: l, .int k' y :: j, h => by
  simp only [ph] at h
  split at h
  · rename_i q m h1
    simp only [Option.some.injEq, Bool.and_eq_true, beq_iff_eq] at h
    obtain ⟨rfl, rfl⟩ := h
    obtain rfl := IntKind.mz m
    obtain ⟨rfl, h2⟩ := tl l j h1
    exact ⟨rfl, by rw [List.zip_cons_cons, List.all_cons, h2]; simp [Instr.sameBits]⟩
  · cases h
 | [], _ :: _, h => by simp [ph] at h
theorem zl {k v : Value} (h : kEq k v = some true) : Instr.sameBits 10000 v k = true := by
 unfold kEq at h
 split at h
 · rename_i a b
   obtain ⟨h1, h2⟩ := tl _ _ h
   have hs : b.size = a.size := by have := congrArg List.length h1; simpa using this.symm
   show (b.size == a.size && (b.toList.zip a.toList).all fun (x, y) => Instr.sameBits 9999 x y) = true
   rw [h2, hs]; simp
 · split at h
   · rename_i hb
     have e := IntKind.mz hb
     subst e
     simp only [Option.some.injEq, beq_iff_eq] at h
     subst h; simp [Instr.sameBits]
   · cases h
 · simp only [Option.some.injEq, beq_iff_eq] at h
   subst h; simp [Instr.sameBits]
 · cases h
theorem mD {e : TypeId} (h : nY P e = true) : (∃ k, P.underlying e = some (.int k)) /\ eZ P e = some 1 /\ Ct P e = some false := by
 unfold nY at h
 split at h
 · rename_i k n hu hs
   obtain rfl := Nat.eq_of_beq_eq_true h
   exact ⟨⟨k, hu⟩, hs, by unfold Ct; rw [hu]⟩
 · cases h
theorem zr {e : TypeId} (h : nY P e = true) {k k' : IntKind} {x y : Int} (j : IntKind.rO k k' = true) (d : Nat) : ug P (d + 1) e (.at (.int k x)) (.at (.int k' y)) = some (x == y) := by
 obtain ⟨⟨q, hu⟩, _, _⟩ := mD h
 simp only [ug, hu, j]
theorem xM {e : TypeId} (h : nY P e = true) (xs : List Value) (i : Nat) : pN P e (xs.map .at) i = (xs[i]?).map .at := by
 obtain ⟨_, _, ha⟩ := mD h
 simp only [pN, ha, List.getElem?_map]
theorem drop_cons {xs l : List Value} {x : Value} {i : Nat} (h : xs.drop i = x :: l) : xs[i]? = some x /\ xs.drop (i + 1) = l := by
 have h1 : xs[i]? = some x := by rw [<- List.head?_drop, h]; rfl
 refine ⟨h1, ?_⟩
 rw [<- List.drop_drop, h]; rfl
theorem Ep {xs ys : List Value} : ∀ (j : List Field) (i : Nat) (r : Bool), tM P j i = true -> ph (xs.drop i) (ys.drop i) = some r -> (xs.drop i).length = j.length -> zm P (ug P 1) (xs.map .at) (ys.map .at) j = some r
 | [], i, r, _, h, m => by
  have : xs.drop i = [] := List.length_eq_zero_iff.1 m
  rw [this] at h
  cases q : ys.drop i with
  | nil => rw [q] at h; simp only [ph] at h; simp only [zm]; exact h
  | cons y l => rw [q] at h; simp [ph] at h
 | f :: j, i, r, hw, h, m => by
  simp only [tM, Bool.and_eq_true] at hw
  obtain ⟨⟨⟨w1, z⟩, D⟩, E⟩ := hw
  have z := Nat.eq_of_beq_eq_true z
  cases hx : xs.drop i with
  | nil => rw [hx] at m; simp at m
  | cons x l =>
   cases q : ys.drop i with
   | nil => rw [hx, q] at h; cases x <;> simp [ph] at h
   | cons y Y =>
    obtain ⟨x1, x2⟩ := drop_cons hx
    obtain ⟨I, J⟩ := drop_cons q
    rw [hx, q] at h
    have C : (xs.drop (i + 1)).length = j.length := by rw [x2]; rw [hx] at m; simpa using m
    unfold ph at h
    split at h
    · rename_i e1 _; cases e1
    · rename_i k a l0 k' b M e1 e2
      cases e1; cases e2
      split at h
      · rename_i N O h1
        cases h
        have T := Ep (xs := xs) (ys := ys) j (i + 1) N E (by rw [x2, J]; exact h1) C
        have U : decide (f.name = "_") = false := by simpa using w1
        simp only [zm, U, xM D, z, x1, I, Option.map_some, zr D O, T]
      · cases h
    · cases h
theorem Dj {e : TypeId} (z : nY P e = true) {xs ys : List Value} : ∀ (m i : Nat) (r : Bool), ph (xs.drop i) (ys.drop i) = some r -> (xs.drop i).length = m -> AT P (ug P 1 e) e 1 (xs.map .at) (ys.map .at) m i = some r
 | 0, i, r, h, j => by
  have : xs.drop i = [] := List.length_eq_zero_iff.1 j
  rw [this] at h
  cases q : ys.drop i with
  | nil => rw [q] at h; simp only [ph] at h; simp only [AT]; exact h
  | cons y l => rw [q] at h; simp [ph] at h
 | m + 1, i, r, h, j => by
  cases hx : xs.drop i with
  | nil => rw [hx] at j; simp at j
  | cons x l =>
   cases q : ys.drop i with
   | nil => rw [hx, q] at h; cases x <;> simp [ph] at h
   | cons y O =>
    obtain ⟨x1, x2⟩ := drop_cons hx
    obtain ⟨D, E⟩ := drop_cons q
    rw [hx, q] at h
    have C : (xs.drop (i + 1)).length = m := by rw [x2]; rw [hx] at j; simpa using j
    unfold ph at h
    split at h
    · rename_i e1 _; cases e1
    · rename_i k a T k' b I e1 e2
      cases e1; cases e2
      split at h
      · rename_i J M h1
        cases h
        have N := Dj z (xs := xs) (ys := ys) m (i + 1) J (by rw [x2, E]; exact h1) C
        simp only [AT, Nat.mul_one, xM z, x1, D, Option.map_some, zr z M, N]
      · cases h
    · cases h
theorem vS {t : TypeId} {a b : Array Value} {r : Bool} (ha : mw P t a = true) (h : ph a.toList b.toList = some r) (w : World) : (Op.equal t (.agg a) (.agg b)).run P w = .ok r w := by
 have key : ug P 2 t (.at (.agg a)) (.at (.agg b)) = some r := by
  unfold mw at ha
  split at ha
  · rename_i n e hu
    simp only [Bool.and_eq_true] at ha
    obtain ⟨⟨h1, h2⟩, _⟩ := ha
    obtain ⟨_, hs, _⟩ := mD h1
    have h2 := Nat.eq_of_beq_eq_true h2
    simp only [ug, hu, hs, wW]
    exact Dj h1 n 0 r (by simpa using h) (by simpa using h2)
  · rename_i m hu
    simp only [Bool.and_eq_true] at ha
    obtain ⟨⟨⟨h1, h2⟩, _⟩, j⟩ := ha
    have h2 := Nat.eq_of_beq_eq_true h2
    have j : P.stoodInHeld t = false := by simpa using j
    simp only [ug, hu, j, wW]
    exact Ep m.toList 0 r h1 (by simpa using h) (by simpa using h2)
  · cases ha
 exact ni (P := P) (w := w) (mu := fun _ => False) (π := []) 2 10000 t _ _ r _ _ (by omega) key rfl rfl
theorem CA {e : TypeId} (h : nY P e = true) (em : Bool) (n : Nat) {k : IntKind} {x : Int} (w : World) : (Instr.checkKey em (n + 1) e (.int k x)).run P w = .ok () w := by
 obtain ⟨⟨q, hu⟩, _, _⟩ := mD h
 simp [Instr.checkKey, run_underlying hu]
theorem vM : ∀ (l : List Value), sZ l = true -> ∀ (i : Nat) (v : Value), l[i]? = some v -> ∃ k x, v = .int k x
 | [], _, i, v, hi => by simp at hi
 | .int k x :: l, h, i, v, hi => by
  cases i with
  | zero => simp at hi; exact ⟨k, x, hi.symm⟩
  | succ i => exact vM l (by simpa [sZ] using h) i v (by simpa using hi)
theorem z7 {e : TypeId} (h : nY P e = true) {xs : Array Value} {i : Nat} {v : Value} (hx : xs[i]? = some v) (w : World) : (part e xs i).run P w = .ok v w := by
 obtain ⟨⟨q, hu⟩, _, _⟩ := mD h
 simp [part, isAgg, run_underlying hu, hx]
theorem zj {t : TypeId} {a : Array Value} (ha : mw P t a = true) (em : Bool) (n : Nat) (w : World) (I : ∀ (e : TypeId) (k : IntKind) (x : Int), nY P e = true -> (Instr.checkKey em n e (.int k x)).run P w = .ok () w) : (Instr.checkKey em (n + 1) t (.agg a)).run P w = .ok () w := by
 unfold mw at ha
 split at ha
 · rename_i M e hu
   simp only [Bool.and_eq_true] at ha
   obtain ⟨⟨h1, h2⟩, z⟩ := ha
   obtain ⟨_, hs, _⟩ := mD h1
   have h2 := Nat.eq_of_beq_eq_true h2
   have key : ∀ (m i : Nat), i + m <= a.size -> ((forIn (List.range' i m) PUnit.unit fun j _ => do
     let s <- sizeOf e
     let v <- part e a (j * s)
     Instr.checkKey em n e v
     pure (ForInStep.yield PUnit.unit) : Sem PUnit).run P w) = .ok PUnit.unit w := by
    intro m
    induction m with
    | zero => intro i _; simp
    | succ m C =>
     intro i hi
     have q : i < a.size := by omega
     have hx : a[i]? = some a[i] := Array.getElem?_eq_getElem q
     obtain ⟨k, x, e1⟩ := vM a.toList z i a[i] (by rw [Array.getElem?_toList]; exact hx)
     simp only [List.range'_succ, List.forIn_cons, Sem.run_bind, bO hs, Result.andThen_ok, Nat.mul_one, z7 h1 hx, e1, I e k x h1, Sem.run_pure]
     exact C (i + 1) (by omega)
   have := key M 0 (by omega)
   simp only [Instr.checkKey, Sem.run_bind, run_underlying hu, Result.andThen_ok, Std.Legacy.Range.forIn_eq_forIn_range', Std.Legacy.Range.size, Nat.sub_zero, Nat.add_sub_cancel, Nat.div_one, this, Sem.run_pure]
 · rename_i N hu
   simp only [Bool.and_eq_true] at ha
   obtain ⟨⟨⟨h1, h2⟩, z⟩, _⟩ := ha
   have h2 := Nat.eq_of_beq_eq_true h2
   have key : ∀ (l : List Field) (i : Nat), tM P l i = true -> i + l.length <= a.size -> ((forIn l PUnit.unit fun f _ =>
     if f.name ≠ "_" then do
      let v <- part f.type a f.offset
      Instr.checkKey em n f.type v
      pure (ForInStep.yield PUnit.unit)
     else pure (ForInStep.yield PUnit.unit) : Sem PUnit).run P w) = .ok PUnit.unit w := by
    intro l
    induction l with
    | nil => intro i _ _; simp
    | cons f l C =>
     intro i hw hi
     simp only [tM, Bool.and_eq_true] at hw
     obtain ⟨⟨⟨w1, D⟩, J⟩, O⟩ := hw
     have D := Nat.eq_of_beq_eq_true D
     have q : i < a.size := by simp at hi; omega
     have hx : a[i]? = some a[i] := Array.getElem?_eq_getElem q
     obtain ⟨k, x, e1⟩ := vM a.toList z i a[i] (by rw [Array.getElem?_toList]; exact hx)
     have E : f.name ≠ "_" := by simpa using w1
     simp only [List.forIn_cons, Sem.run_bind, E, ne_eq, not_false_eq_true, if_true, D, z7 J hx, Result.andThen_ok, e1, I f.type k x J, Sem.run_pure]
     exact C (i + 1) O (by simp at hi; omega)
   have := key N.toList 0 h1 (by omega)
   simp only [Instr.checkKey, Sem.run_bind, run_underlying hu, Result.andThen_ok]
   rw [<- Array.forIn_toList]
   have e := congrArg (fun r => r.andThen fun (a : PUnit) w' => Sem.run P (pure ()) w') this
   simp only [Result.andThen_ok, Sem.run_pure] at e
   first | exact this | exact e
 · cases ha
theorem Aq {t : TypeId} {a : Array Value} (ha : mw P t a = true) (em : Bool) (w : World) : (Instr.checkKey em 10000 t (.agg a)).run P w = .ok () w := zj ha em 9999 w fun e k x h => CA h em 9998 w
theorem rz {mu : Nat -> Prop} {t : TypeId} {a : Array Value} (ha : mw P t a = true) : ∀ (es : List (Value × AV)) (l : List MapEntry) (i0 j : Nat) (r : Option (Nat × AV)), RvM w mu π j es l -> jX (.agg a) es i0 = some r ->
  (r = none /\ (Instr.findAsking t (.agg a) l i0).run P w = .ok none w) \/ ∃ (q : Nat) (e : MapEntry) (A : AV), r = some (i0 + q, A) /\ (Instr.findAsking t (.agg a) l i0).run P w = .ok (some (i0 + q, e.val)) w /\ l[q]? = some e /\ es[q]? = some (e.key, A) /\ e.born = j + q /\ Rv w mu π A e.val /\ Instr.sameBits 10000 e.key (.agg a) = true
 | [], l, i0, j, r, h, z => by cases h; cases z; exact .inl ⟨rfl, by simp [Instr.findAsking]⟩
 | (k', A) :: es, l, i0, j, r, h, z => by
  obtain ⟨e, D, rfl, rfl, I, J, M⟩ := h
  simp only [jX] at z
  have C : ∀ b, kEq (.agg a) e.key = some b -> ∃ c, e.key = .agg c /\ ph a.toList c.toList = some b := by
   intro b hb
   cases N : e.key <;> rw [N] at hb <;> simp only [kEq] at hb
   all_goals first | exact ⟨_, rfl, hb⟩ | cases hb
  split at z
  · rename_i hb
    cases z
    obtain ⟨c, hc, E⟩ := C _ hb
    refine .inr ⟨0, e, A, rfl, ?_, rfl, rfl, I, J, zl hb⟩
    simp only [Instr.findAsking, hc, Sem.run_bind, vS ha E, Result.andThen_ok, if_true, Sem.run_pure, Nat.add_zero]
  · rename_i hb
    obtain ⟨c, hc, E⟩ := C _ hb
    have m : (Instr.findAsking t (.agg a) (e :: D) i0).run P w = (Instr.findAsking t (.agg a) D (i0 + 1)).run P w := by
     simp only [Instr.findAsking, hc, Sem.run_bind, vS ha E, Result.andThen_ok, Bool.false_eq_true, if_false]
    rcases rz ha es D (i0 + 1) (j + 1) r M z with ⟨e1, e2⟩ | ⟨q, O, T, e1, e2, U, Y, e5, e6, e7⟩
    · exact .inl ⟨e1, by rw [m]; exact e2⟩
    · exact .inr ⟨q + 1, O, T, by rw [e1]; congr 2; omega, by rw [m, e2]; congr 3; omega, by simpa using U, by simpa using Y, by omega, e6, e7⟩
  · cases z
theorem Ci {d : TypeDesc} {k v : Value} {b : Bool} (j : IsKey d k) (h : kEq k v = some b) : Instr.sameNow d k v = some b := by
 unfold kEq at h
 split at h
 · cases d <;> simp only [IsKey] at j
 · rename_i m x q y
   split at h
   · rename_i hb
     cases h
     have e := IntKind.mz hb
     subst e
     cases d <;> simp only [IsKey] at j
     simp [Instr.sameNow]
   · cases h
 · cases h
   cases d <;> simp only [IsKey] at j
   simp [Instr.sameNow]
 · cases h
theorem uF {mu : Nat -> Prop} {d : TypeDesc} {k : Value} (z : IsKey d k) : ∀ (es : List (Value × AV)) (l : List MapEntry) (i0 j : Nat) (r : Option (Nat × AV)), RvM w mu π j es l -> jX k es i0 = some r ->
  (r = none /\ Instr.findNow d k l i0 = some none) \/ ∃ (m : Nat) (e : MapEntry) (A : AV), r = some (i0 + m, A) /\ Instr.findNow d k l i0 = some (some (i0 + m, e.val)) /\ l[m]? = some e /\ es[m]? = some (e.key, A) /\ e.born = j + m /\ Rv w mu π A e.val /\ Instr.sameBits 10000 e.key k = true
 | [], l, i0, j, r, h, q => by cases h; cases q; exact .inl ⟨rfl, rfl⟩
 | (k', A) :: es, l, i0, j, r, h, q => by
  obtain ⟨e, C, rfl, rfl, D, E, I⟩ := h
  simp only [jX] at q
  split at q
  · rename_i hb
    cases q
    have g1 := Ci z hb
    exact .inr ⟨0, e, A, rfl, by simp [Instr.findNow, g1], rfl, rfl, D, E, zl hb⟩
  · rename_i hb
    have g1 := Ci z hb
    rcases uF z es C (i0 + 1) (j + 1) r I q with ⟨e1, e2⟩ | ⟨m, J, M, e1, e2, N, O, Y, T, U⟩
    · exact .inl ⟨e1, by simp [Instr.findNow, g1, e2]⟩
    · exact .inr ⟨m + 1, J, M, by rw [e1]; congr 2; omega, by simp [Instr.findNow, g1, e2]; omega, by simpa using N, by simpa using O, by omega, T, U⟩
  · cases q
theorem kO {mu : Nat -> Prop} {t : TypeId} {k : Value} (m : iI P t k = true) {es : List (Value × AV)} {l : List MapEntry} {r : Option (Nat × AV)} (h : RvM w mu π 0 es l) (C : jX k es 0 = some r) :
  (∀ em, (Instr.checkKey em 10000 t k).run P w = .ok () w) /\ ((r = none /\ (Instr.findKey t k l).run P w = .ok none w) \/ ∃ (j : Nat) (e : MapEntry) (A : AV), r = some (0 + j, A) /\ (Instr.findKey t k l).run P w = .ok (some (0 + j, e.val)) w /\ l[j]? = some e /\ es[j]? = some (e.key, A) /\ e.born = 0 + j /\ Rv w mu π A e.val /\ Instr.sameBits 10000 e.key k = true) := by
 have simple : ∀ d, P.underlying t = some d -> IsKey d k -> _ := fun d hd z => by
  refine And.intro (a := ∀ em, (Instr.checkKey em 10000 t k).run P w = .ok () w) (b := (r = none /\ (Instr.findKey t k l).run P w = .ok none w) \/ ∃ (j : Nat) (e : MapEntry) (A : AV), r = some (0 + j, A) /\ (Instr.findKey t k l).run P w = .ok (some (0 + j, e.val)) w /\ l[j]? = some e /\ es[j]? = some (e.key, A) /\ e.born = 0 + j /\ Rv w mu π A e.val /\ Instr.sameBits 10000 e.key k = true) (fun em => Go.MapKept.run_checkKey hd z em 9999) ?_
  rcases uF z es l 0 0 _ h C with ⟨e1, e2⟩ | ⟨j, D, A2, e1, e2, E, I, J, M, N⟩
  · exact .inl ⟨e1, Go.MapKept.run_findKey hd e2⟩
  · exact .inr ⟨j, D, A2, e1, Go.MapKept.run_findKey hd e2, E, I, J, M, N⟩
 unfold iI at m
 split at m
 · rename_i O T n hu; exact simple _ hu (IntKind.mz m).symm
 · rename_i b hu; exact simple _ hu trivial
 · rename_i U a hu
   refine ⟨fun em => Aq m em w, ?_⟩
   have hw : (Instr.findKey t (.agg a) l).run P w = (Instr.findAsking t (.agg a) l).run P w := by
    cases l with
    | nil => simp [Instr.findKey, run_underlying hu, Instr.findNow, Instr.findAsking]
    | cons e l =>
     unfold mw at m
     split at m
     · rename_i n Y q; simp [Instr.findKey, run_underlying q, Instr.findNow, Instr.sameNow]
     · rename_i fs q; simp [Instr.findKey, run_underlying q, Instr.findNow, Instr.sameNow]
     · cases m
   rw [hw]
   exact rz m es l 0 0 _ h C
 · cases m
theorem RvM.len {mu : Nat -> Prop} : ∀ (es : List (Value × AV)) (l : List MapEntry) (j : Nat), RvM w mu π j es l -> l.length = es.length
 | [], _, _, h => by cases h; rfl
 | (k, A) :: es, _, j, h => by obtain ⟨e, m, rfl, _, _, _, q⟩ := h; simp [RvM.len es m _ q]
theorem RvM.get {mu : Nat -> Prop} : ∀ (es : List (Value × AV)) (l : List MapEntry) (j i : Nat) (k : Value) (A : AV), RvM w mu π j es l -> es[i]? = some (k, A) -> ∃ e, l[i]? = some e /\ e.key = k /\ e.born = j + i /\ Rv w mu π A e.val
 | [], _, _, i, k, A, _, h => by simp at h
 | (k', J) :: es, _, j, i, k, A, h, hi => by
  obtain ⟨e, m, rfl, h2, q, z, C⟩ := h
  cases i with
  | zero => simp at hi; obtain ⟨rfl, rfl⟩ := hi; exact ⟨e, rfl, h2, q, z⟩
  | succ i =>
   obtain ⟨D, g1, E, M, I⟩ := RvM.get es m (j + 1) i k A C (by simpa using hi)
   exact ⟨D, by simpa using g1, E, by omega, I⟩
theorem RvM.set {mu : Nat -> Prop} {k : Value} {A : AV} {v : Value} (m : Rv w mu π A v) : ∀ (es : List (Value × AV)) (l : List MapEntry) (j i : Nat), RvM w mu π j es l -> RvM w mu π j (es.set i (k, A)) (l.modify i fun e => { e with key := k, val := v })
 | [], _, _, i, h => by cases h; cases i <;> simp [RvM]
 | (k', E) :: es, _, j, i, h => by
  obtain ⟨e, q, rfl, h2, z, D, C⟩ := h
  cases i with
  | zero => exact ⟨_, q, rfl, rfl, z, m, C⟩
  | succ i => exact ⟨e, _, rfl, h2, z, D, RvM.set m es q (j + 1) i C⟩
theorem RvM.snoc {mu : Nat -> Prop} {k : Value} {A : AV} {v : Value} (m : Rv w mu π A v) : ∀ (es : List (Value × AV)) (l : List MapEntry) (j : Nat), RvM w mu π j es l -> RvM w mu π j (es ++ [(k, A)]) (l ++ [{ key := k, val := v, born := j + es.length }])
 | [], _, j, h => by cases h; exact ⟨_, [], rfl, rfl, rfl, m, rfl⟩
 | (k', q) :: es, _, j, h => by
  obtain ⟨e, z, rfl, h2, C, D, E⟩ := h
  have := RvM.snoc (k := k) m es z (j + 1) E
  rw [show j + 1 + es.length = j + ((k', q) :: es).length by simp; omega] at this
  exact ⟨e, _, rfl, h2, C, D, this⟩
theorem lI (j : Inv out B w π H) {x : AV} {v : Value} {b : Nat} {es : List (Value × AV)} (hx : Rv w (aJ out π H) π x v) (h : jk H x = some (b, es)) :
  H[b]? = some (.map es) /\ ∃ (p : PB) (a : Array MapEntry), v = .map (some p.blk) /\ π[b]? = some (some p) /\ w.heap[p.blk]? = some (.map a a.size) /\ RvM w (aJ out π H) π 0 es a.toList := by
 unfold jk at h
 split at h
 · rename_i m
   split at h
   · rename_i es' hb
     cases h
     obtain ⟨p, hp, rfl⟩ := hx
     obtain ⟨a, h1, h2⟩ := j.ok _ _ p hb hp
     exact ⟨hb, p, a, rfl, hp, h1, h2⟩
   · cases h
 · cases h
theorem uC {e : TypeId} {z : AV} (h : xg P e = some z) : ∃ j, (∀ w, (zeroValue e).run P w = .ok j w) /\ ∀ (w : World) (mu : Nat -> Prop) (π : List (Option PB)), Rv w mu π z j := by
 unfold xg at h
 split at h
 · rename_i i hi
   split at h
   · rename_i a ha
     cases h
     exact ⟨.agg a, fun w => by simp [zeroValue, typeInfo, hi, ha], fun w mu π => ⟨a, rfl, fm _⟩⟩
   · rename_i v _ m
     cases h
     exact ⟨v, fun w => by simp [zeroValue, typeInfo, hi, m], fun w mu π => rfl⟩
   · cases h
 · cases h
theorem wU (hI : Inv out B w π H) {t : TypeId} {x E : AV} {v C : Value} {ok : Bool} {A : AV} (hx : Rv w (aJ out π H) π x v) (hi : Rv w (aJ out π H) π E C) (h : eN P H t x E ok = some A) :
  ∃ u, (Instr.lookup t v C ok).run P w = .ok u w /\ Rv w (aJ out π H) π A u := by
 unfold eN at h
 split at h
 · rename_i kt e b es k hu hm I
   obtain ⟨_, p, a, rfl, hp, hb, U⟩ := lI hI hx hm
   obtain rfl : C = k := iA E C k hi I
   have j : ∀ {J : AV} {u : Value} {c : Bool}, Rv w (aJ out π H) π J u -> Rv w (aJ out π H) π (.tup [J, .at (.bool c)]) (.tuple #[u, .bool c]) := fun h => ⟨_, rfl, _, _, rfl, h, _, _, rfl, rfl, rfl⟩
   split at h
   · rename_i z i J M Y N
     obtain ⟨m, q⟩ := kO M U N
     rcases q with ⟨e1, _⟩ | ⟨jx, O, A2, e1, e2, _, _, _, e6, _⟩
     · cases e1
     · cases e1
       have run : ∀ o, (Instr.lookup t (.map (some p.blk)) C o).run P w = .ok (if o then .tuple #[O.val, .bool true] else O.val) w := by
        intro o
        simp only [Instr.lookup, Sem.run_bind, run_underlying hu, Result.andThen_ok, Go.MapKept.run_getObj_map hb, Sem.run_pure, m, e2]
       cases h
       refine ⟨_, run ok, ?_⟩
       cases ok
       · exact e6
       · exact j e6
   · rename_i z M Y N
     obtain ⟨m, q⟩ := kO M U N
     obtain ⟨zv, T, D⟩ := uC Y
     rcases q with ⟨_, e2⟩ | ⟨jx, O, A2, e1, _⟩
     · have run : ∀ o, (Instr.lookup t (.map (some p.blk)) C o).run P w = .ok (if o then .tuple #[zv, .bool false] else zv) w := by
        intro o
        simp only [Instr.lookup, Sem.run_bind, run_underlying hu, Result.andThen_ok, Go.MapKept.run_getObj_map hb, Sem.run_pure, m, e2, T]
       cases h
       refine ⟨_, run ok, ?_⟩
       cases ok
       · exact D _ _ _
       · exact j (D _ _ _)
     · cases e1
   · cases h
 · cases h
theorem toList_modify (a : Array MapEntry) (i : Nat) (f : MapEntry -> MapEntry) : (a.modify i f).toList = a.toList.modify i f := by simp
theorem sD (m : Inv out B w π H) {b : Nat} {es es' : List (Value × AV)} {p : PB} {a a' : Array MapEntry} (j : H[b]? = some (.map es)) (hp : π[b]? = some (some p)) (hb : w.heap[p.blk]? = some (.map a a.size))
  (q : ∀ (w' : World) (mu' : Nat -> Prop), (∀ A v, Rv w (aJ out π H) π A v -> Rv w' mu' π A v) -> RvM w' mu' π 0 es' a'.toList) :
  ∃ w', w' = { w with heap := w.heap.setIfInBounds p.blk (.map a' a'.size) } /\ Ext B w w' (aJ out π H) (aJ out π (aM H [(b, .map es')])) π π /\ Inv out B w' π (aM H [(b, .map es')]) := by
 have hu : aM H [(b, .map es')] = H.set b (.map es') := by simp [aM, upd, aT j]
 rw [hu]
 refine ⟨_, rfl, ?_⟩
 obtain ⟨g1, z⟩ := heap_set (o' := .map a' a'.size) hb
 exact m.tG j hp rfl (.map es') (by simp) (fun c hc => z c hc) rfl rfl rfl (fun _ => Nat.le_refl _) (fun C => ⟨a', g1, q _ _ (fun A v h => Rv.ext C A v h)⟩)
theorem RvM.of {w' : World} {mu mu' : Nat -> Prop} (h : ∀ A v, Rv w mu π A v -> Rv w' mu' π A v) : ∀ (i : Nat) (es : List (Value × AV)) (l : List MapEntry), RvM w mu π i es l -> RvM w' mu' π i es l
 | _, [], _, j => j
 | i, (k, A) :: es, l, j => by
  obtain ⟨e, m, h1, h2, q, z, C⟩ := j
  exact ⟨e, m, h1, h2, q, h _ _ z, RvM.of h (i + 1) es m C⟩
theorem stays {old new : Value} (h : Instr.sameBits 10000 old new = true) (w : World) : (Instr.keyThatStays old new).run P w = .ok new w := by simp [Instr.keyThatStays, h]
theorem qB (M : Inv out B w π H) {t : TypeId} {m k x : AV} {vm vk I : Value} {r : bs} (hm : Rv w (aJ out π H) π m vm) (D : Rv w (aJ out π H) π k vk) (hx : Rv w (aJ out π H) π x I) (h : gO P H t m k x = some r) :
  cn P out B w π H (do Instr.mapUpdate t vm vk I; pure .skip) r := by
 unfold gO at h
 split at h
 · rename_i kt e b es k' hu N O
   obtain ⟨hH, p, a, rfl, hp, hb, E⟩ := lI M hm N
   obtain rfl : vk = k' := iA k vk k' D O
   split at h
   · rename_i i A D T
     cases h
     obtain ⟨q, z⟩ := kO D E T
     rcases z with ⟨e1, _⟩ | ⟨J, en, A2, e1, e2, e3, e4, e5, e6, e7⟩
     · cases e1
     · cases e1
       obtain ⟨w', rfl, U, C⟩ := sD M (es' := es.set (0 + J) (vk, x)) (a' := a.modify (0 + J) fun e => { e with key := vk, val := I }) hH hp hb (fun w' mu' j => by
        rw [toList_modify]; exact RvM.set (j _ _ hx) es a.toList 0 _ (RvM.of j 0 es _ E))
       have Y : (((a[0 + J]?).map (·.key)).getD vk) = en.key := by rw [<- Array.getElem?_toList, Nat.zero_add, e3]; rfl
       refine ⟨.skip, undef, _, π, ?_, .inr ⟨rfl, rfl⟩, U, C, trivial, fun _ _ => rfl⟩
       simp only [Instr.mapUpdate, Sem.run_bind, run_underlying hu, Result.andThen_ok, Go.MapKept.run_getObj_map hb, q, e2, Y, stays e7]
       simp [Go.MapKept.run_setObj_map _ hb]
   · rename_i D T
     cases h
     obtain ⟨q, z⟩ := kO D E T
     rcases z with ⟨_, e2⟩ | ⟨J, en, A2, e1, _⟩
     · have hl := RvM.len es a.toList 0 E
       have hl : a.size = es.length := by simpa using hl
       obtain ⟨w', rfl, U, C⟩ := sD M (es' := es ++ [(vk, x)]) (a' := a.push { key := vk, val := I, born := a.size }) hH hp hb (fun w' mu' j => by
        have := RvM.snoc (k := vk) (j _ _ hx) es a.toList 0 (RvM.of j 0 es _ E)
        rw [Nat.zero_add, <- hl] at this
        simpa using this)
       refine ⟨.skip, undef, _, π, ?_, .inr ⟨rfl, rfl⟩, U, C, trivial, fun _ _ => rfl⟩
       simp only [Instr.mapUpdate, Sem.run_bind, run_underlying hu, Result.andThen_ok, Go.MapKept.run_getObj_map hb, q, e2]
       simp [Go.MapKept.run_setObj_map _ hb]
     · cases e1
   · cases h
 · cases h
theorem xt {A : AV} {w' : World} {mu : Nat -> Prop} {u : Value} {i : Nat} (h : Rv w' mu π A u) : Rv w' mu π (.tup [A, .at (.int .i64 i)]) (.tuple #[u, goInt i]) := ⟨_, rfl, _, _, rfl, h, _, _, rfl, rfl, rfl⟩
theorem wL (Y : Inv out B w π H) {t : TypeId} {m k : AV} {vm vk : Value} {r : bs} (hm : Rv w (aJ out π H) π m vm) (J : Rv w (aJ out π H) π k vk) (h : lB P H t m k = some r) :
  cn P out B w π H (do pure (.value (<- Instr.mapEntry t vm vk))) r := by
 unfold lB at h
 split at h
 · rename_i kt e b es k' hu a0 a1
   obtain ⟨hH, p, a, rfl, hp, hb, M⟩ := lI Y hm a0
   obtain rfl : vk = k' := iA k vk k' J a1
   have T := RvM.len es a.toList 0 M
   have T : a.size = es.length := by simpa using T
   split at h
   · rename_i z i A J hz hf
     cases h
     obtain ⟨q, C⟩ := kO J M hf
     rcases C with ⟨e1, _⟩ | ⟨D, E, A2, e1, e2, e3, e4, e5, e6, e7⟩
     · cases e1
     · cases e1
       have N : a.modify (0 + D) (fun e => { e with key := vk }) = a.modify (0 + D) fun e => { e with key := vk, val := E.val } := by
        apply Array.ext (by simp)
        intro i h1 h2
        rw [Array.getElem_modify, Array.getElem_modify]
        split
        · rename_i hi
          have : a[i]'(by simpa using h1) = E := by
           have : a[i]? = some E := by rw [<- hi, <- Array.getElem?_toList, Nat.zero_add]; exact e3
           exact (Array.getElem?_eq_some_iff.1 this).2
          rw [this]
        · rfl
       obtain ⟨w', rfl, U, I⟩ := sD Y (es' := es.set (0 + D) (vk, A)) (a' := a.modify (0 + D) fun e => { e with key := vk, val := E.val }) hH hp hb (fun w' mu' j => by
        rw [toList_modify]; exact RvM.set (j _ _ e6) es a.toList 0 _ (RvM.of j 0 es _ M))
       have hj : a[0 + D]? = some E := by rw [<- Array.getElem?_toList, Nat.zero_add, e3]
       refine ⟨.value (.tuple #[E.val, goInt ((0 + D : Nat) : Int)]), _, _, π, ?_, .inl rfl, U, I, xt (Rv.ext U _ _ e6), fun _ _ => rfl⟩
       simp only [Instr.mapEntry, Sem.run_bind, run_underlying hu, Result.andThen_ok, Go.MapKept.run_getObj_map hb, q, e2, hj, Option.map_some, Option.getD_some, stays e7, N, e5]
       simp [Go.MapKept.run_setObj_map _ hb]
   · rename_i z J hz hf
     cases h
     obtain ⟨q, C⟩ := kO J M hf
     obtain ⟨zv, a2, O⟩ := uC hz
     rcases C with ⟨_, e2⟩ | ⟨D, E, A2, e1, _⟩
     · obtain ⟨w', rfl, U, I⟩ := sD Y (es' := es ++ [(vk, z)]) (a' := a.push { key := vk, val := zv, born := a.size }) hH hp hb (fun w' mu' j => by
        have := RvM.snoc (k := vk) (O w' mu' π) es a.toList 0 (RvM.of j 0 es _ M)
        rw [Nat.zero_add, <- T] at this
        simpa using this)
       refine ⟨.value (.tuple #[zv, goInt ((es.length : Nat) : Int)]), _, _, π, ?_, .inl rfl, U, I, xt (O _ _ _), fun _ _ => rfl⟩
       simp only [Instr.mapEntry, Sem.run_bind, run_underlying hu, Result.andThen_ok, Go.MapKept.run_getObj_map hb, q, e2, a2]
       simp [Go.MapKept.run_setObj_map _ hb, T]
     · cases e1
   · cases h
 · cases h
theorem wY {k : IntKind} {n : Int} : (asInt (.int k n)).run P w = .ok n w := by simp [asInt, asIntOf]
theorem RvM.born {mu : Nat -> Prop} : ∀ (es : List (Value × AV)) (l : List MapEntry) (j i : Nat), RvM w mu π j es l -> i < es.length -> l.findIdx? (fun e => (e.born : Int) == ((j + i : Nat) : Int)) = some i
 | [], _, _, i, _, hi => by simp at hi
 | (k', C) :: es, _, j, i, h, hi => by
  obtain ⟨e, q, rfl, h2, m, D, z⟩ := h
  rw [List.findIdx?_cons]
  cases i with
  | zero => simp [m]
  | succ i =>
   have := RvM.born es q (j + 1) i z (by simpa using hi)
   rw [show j + 1 + i = j + (i + 1) by omega] at this
   rw [this]
   have : ((e.born : Int) == ((j + (i + 1) : Nat) : Int)) = false := by rw [m]; simp; omega
   rw [this]; rfl
theorem rE (O : Inv out B w π H) {t : TypeId} {m s x : AV} {T vs q : Value} {r : bs} (hm : Rv w (aJ out π H) π m T) (hs : Rv w (aJ out π H) π s vs) (hx : Rv w (aJ out π H) π x q) (h : km H m s x = some r) :
  cn P out B w π H (do Instr.entryStore t T vs q; pure .skip) r := by
 unfold km at h
 split at h
 · rename_i b es i C hi
   obtain ⟨hH, p, a, rfl, hp, hb, D⟩ := lI O hm C
   split at h
   · rename_i k A U E
     cases h
     have U : 0 <= i := by simpa using U
     obtain ⟨sk, rfl⟩ := iR hs hi
     obtain ⟨n, rfl⟩ : ∃ n : Nat, i = n := ⟨i.toNat, by omega⟩
     rw [Int.toNat_natCast] at E ⊢
     obtain ⟨Y, g1, g2, g3, g4⟩ := RvM.get es a.toList 0 n k A D E
     have I : n < es.length := (List.getElem?_eq_some_iff.1 E).1
     have J := RvM.born es a.toList 0 n D I
     have M : a.findIdx? (fun e => (e.born : Int) == (n : Int)) = some n := by
      have e : a = a.toList.toArray := rfl
      rw [e, List.findIdx?_toArray]; simpa using J
     have z : a.modify n (fun e => { e with val := q }) = a.modify n fun e => { e with key := k, val := q } := by
      apply Array.ext (by simp)
      intro i h1 h2
      rw [Array.getElem_modify, Array.getElem_modify]
      split
      · rename_i hi
        have : a[i]'(by simpa using h1) = Y := by
         have : a[i]? = some Y := by rw [<- hi, <- Array.getElem?_toList]; exact g1
         exact (Array.getElem?_eq_some_iff.1 this).2
        rw [this, <- g2]
      · rfl
     obtain ⟨w', rfl, hE, N⟩ := sD O (es' := es.set n (k, x)) (a' := a.modify n fun e => { e with key := k, val := q }) hH hp hb (fun w' mu' j => by
      rw [toList_modify]; exact RvM.set (j _ _ hx) es a.toList 0 _ (RvM.of j 0 es _ D))
     refine ⟨.skip, undef, _, π, ?_, .inr ⟨rfl, rfl⟩, hE, N, trivial, fun _ _ => rfl⟩
     simp only [Instr.entryStore, Sem.run_bind, Go.MapKept.run_getObj_map hb, Result.andThen_ok, wY, M, z]
     simp [Go.MapKept.run_setObj_map _ hb]
   · cases h
 · cases h
theorem ik (m : Inv out B w π H) {n : Nat} (z : n <= H.length) (p : Option PB) (x : Blk) : ∀ j, (∀ b, (j, b) ∉ [(n, x)]) -> (upd π n p)[j]? = π[j]? := by
 intro j q
 rw [fb (by have := m.len; omega), if_neg]
 rintro rfl
 exact q x (by simp)
theorem uO (z : Inv out B w π H) {nid : Nat} (C : nid <= H.length) (I : ∀ q, π[nid]? ≠ some (some q)) {t : TypeId} {r : Option AV} {j : Option Value} {x : bs} (D : match r, j with | none, none => True | some r, some v => Rv w (aJ out π H) π r v | _, _ => False) (h : oC P nid t r = some x) :
  cn P out B w π H (do pure (.value (<- Instr.makeMap t j))) x := by
 have key : (Instr.makeMap t j).run P w = .ok (.map (some w.heap.size)) (w.alloc (.map #[] 0)) /\ x = .eff (.mp nid) [(nid, .map [])] := by
  unfold oC at h
  cases r with
  | none =>
   cases j with
   | none => cases h; exact ⟨by simp [Instr.makeMap], rfl⟩
   | some _ => exact D.elim
  | some r =>
   cases j with
   | none => exact D.elim
   | some v =>
    simp only at h D
    split at h
    · rename_i q kt e J hu
      cases h
      have := qd D J
      subst this
      exact ⟨by simp [Instr.makeMap, run_underlying hu, asInt, asIntOf], rfl⟩
    · cases h
 obtain ⟨m, rfl⟩ := key
 have M := q9 z (.map #[] 0) (.map []) ⟨w.heap.size, 0, 0⟩ rfl C I
 have E := z.alloc (.map #[] 0) (.map []) ⟨w.heap.size, 0, 0⟩ rfl C I ⟨#[], by show (w.heap.push _)[w.heap.size]? = _; simp, rfl⟩
 refine ⟨_, .map (some w.heap.size), _, _, by simp [m], .inl rfl, M, E, ⟨_, je z C _, rfl⟩, ik z C _ _⟩
theorem Fm {mu : Nat -> Prop} (k : Value) : Rv w mu π (GG k) k := by
 cases k <;> first | exact ⟨_, rfl, fm _⟩ | exact rfl
theorem wV (j : Inv out B w π H) {nid : Nat} (z : nid <= H.length) (C : ∀ q, π[nid]? ≠ some (some q)) {t : TypeId} {m : AV} {J : Value} {x : bs} (hm : Rv w (aJ out π H) π m J) (h : my P H nid t m = some x) :
  cn P out B w π H (do pure (.value (<- Instr.range t J))) x := by
 unfold my at h
 split at h
 · rename_i kt e b es hu D
   cases h
   obtain ⟨M, p, a, rfl, hp, hb, N⟩ := lI j hm D
   have O : a.size = es.length := by have := RvM.len es a.toList 0 N; simpa using this
   have E : b ≠ nid := fun e => C p (by rw [<- e]; exact hp)
   have T : p.blk < w.heap.size := (j.base b _ p M hp rfl).2
   have U := q9 j (.mapIter (some p.blk) a.size #[] a.size) (.iter b es.length []) ⟨w.heap.size, 0, 0⟩ rfl z C
   have I := j.alloc (.mapIter (some p.blk) a.size #[] a.size) (.iter b es.length []) ⟨w.heap.size, 0, 0⟩ rfl z C ⟨rfl, p, by rw [fb (by have := j.len; omega), if_neg E]; exact hp, by show (w.heap.push _)[w.heap.size]? = _; rw [<- O]; simp⟩
   refine ⟨_, .pointer (some ⟨w.heap.size, 0, none⟩), _, _, ?_, .inl rfl, U, I, ⟨_, je j z _, rfl⟩, ik j z _ _⟩
   simp only [Instr.range, Sem.run_bind, run_underlying hu, Result.andThen_ok, Go.MapKept.run_getObj_map hb, Sem.run_pure]
   rfl
 · cases h
theorem sr (hI : Inv out B w π H) {x : AV} {v : Value} {r : bs} (hx : Rv w (aJ out π H) π x v) (h : hU H x = some r) : cn P out B w π H (do pure (.value (<- Instr.entry v))) r := by
 unfold hU at h
 split at h
 · rename_i m n seen z
   unfold qa at z
   split at z
   · rename_i j
     split at z
     · rename_i m' n' M N
       cases z
       obtain ⟨p, hp, rfl⟩ := hx
       obtain ⟨ho, q, hq, hh⟩ := hI.ok j _ p N hp
       split at h
       · rename_i es O
         obtain ⟨a, ha, T⟩ := hI.ok m _ q O hq
         have hl : a.size = es.length := by have := RvM.len es a.toList 0 T; simpa using this
         split at h
         · rename_i i U C
           split at h
           · rename_i k A hi
             cases h
             have U : es.length = n := dcT U
             obtain ⟨J, g1, g2, g3, g4⟩ := RvM.get es a.toList 0 i k A T hi
             have D : seen.toArray.back? = some i := by rw [<- C]; simp [Array.back?, List.getLast?_eq_getElem?]
             have E : a.find? (fun e => e.born == i) = some J := by
              have Y : i < es.length := (List.getElem?_eq_some_iff.1 hi).1
              have a0 := RvM.born es a.toList 0 i T Y
              rw [<- Array.find?_toList]
              have a1 : a.toList.findIdx? (fun e => e.born == i) = some i := by
               rw [<- a0]; congr 1; funext e; rw [Nat.zero_add, Bool.eq_iff_iff, beq_iff_eq, beq_iff_eq]; omega
              rw [List.find?_eq_some_iff_getElem]
              have h3 := List.findIdx?_eq_some_iff_getElem.1 a1
              obtain ⟨h4, h5, h6⟩ := h3
              have he : a.toList[i] = J := (List.getElem?_eq_some_iff.1 g1).2
              refine ⟨by rw [<- he]; exact h5, i, h4, he, fun j N => by simpa using h6 j N⟩
             have I : (Instr.entry (.pointer (some ⟨p.blk, p.off + 0, none⟩))).run P w = .ok (.tuple #[J.key, J.val]) w := by
              rw [Nat.add_zero, ho]
              simp only [Instr.entry, getObj, Sem.run_bind, Sem.run, hh, ha, Result.andThen, D, hl, U, bne_self_eq_false, Bool.false_eq_true, if_false, E]
              rfl
             exact cn.value I ⟨_, rfl, _, _, rfl, by rw [g2]; exact Fm k, _, _, rfl, g4, rfl⟩
           · cases h
         · cases h
       · cases h
     · cases z
   · cases z
 · cases h
end
end Go.Eng


namespace Go.Eng
open Go Go.RowKit
variable [Dr]
section
variable {P : Program} {out : Nat -> Prop} {B : Nat -> Prop} {w : World} {π : List (Option PB)} {H : List Blk}
theorem Inv.same {w' : World} (j : Inv out B w π H) (m : w'.heap = w.heap) (z : w'.os = w.os) (C : w'.tape = w.tape) (hu : w'.output = w.output) (hd : Dr.d = true -> w.drawn <= w'.drawn) :
  Ext B w w' (aJ out π H) (aJ out π H) π π /\ Inv out B w' π H := by
 have q : Ext B w w' (aJ out π H) (aJ out π H) π π := ⟨fun _ _ => by rw [m], by rw [m]; exact Nat.le_refl _, fun b _ h => ⟨by rw [m], h⟩, fun _ _ h => h, z, C, hu, hd⟩
 exact ⟨q, j.len, by rw [m]; exact j.bound, j.out_lt, by rw [m]; exact j.base, fun i x p h1 h2 => gr.ext q (fun _ => by rw [m]) (j.ok i x p h1 h2), j.sep⟩
theorem zG (m : Inv out B w π H) {nid : Nat} (C : nid <= H.length) (I : ∀ q, π[nid]? ≠ some (some q)) {t : TypeId} {z : List AV} (J : ko P t = some z) (h1 : z.all fI = true) :
  cn P out B w π H (do pure (.value (<- Instr.alloc t true (.tuple #[])))) (.eff (.hp nid 0) [(nid, .own z)]) := by
 obtain ⟨E, _, hi, M, j, rfl⟩ := qv J w
 obtain ⟨N, D⟩ := lR m C I (E.cells.toList.map .at) E.cells t (fm _) (all_zero h1)
 refine ⟨_, .pointer (some ⟨w.heap.size, 0, none⟩), _, _, by simp [Instr.alloc, j, newVar, newRow], .inl rfl, N, D, ⟨_, je m C _, rfl⟩, ik m C _ _⟩
theorem C2 (j : Inv out B w π H) {nid : Nat} (m : nid <= H.length) (C : ∀ q, π[nid]? ≠ some (some q)) {t : TypeId} {x : AV} {v : Value} (hx : Rv w (aJ out π H) π x v) (h1 : (cellsOf x).all fI = true) :
  cn P out B w π H (do pure (.value (<- Instr.box t v))) (.eff (.hp nid 0) [(nid, .own (cellsOf x))]) := by
 obtain ⟨g1, D⟩ := nO hx h1
 obtain ⟨E, z⟩ := lR j m C (cellsOf x) v.cells t g1 D
 exact ⟨_, .pointer (some ⟨w.heap.size, 0, none⟩), _, _, by simp [Instr.box, newVar, newRow], .inl rfl, E, z, ⟨_, je j m _, rfl⟩, ik j m _ _⟩
def F5 (w : World) (mu : Nat -> Prop) (π : List (Option PB)) (ρ : Operand -> AV) (ρc : Operand -> Value) (l : List (Nat × Operand)) : Prop :=
 RvL w mu π ((l.map fun p => (p.1, ρ p.2)).map (·.2)) ((l.map fun p => (p.1, ρc p.2)).map (·.2))
theorem qN {ρ : Operand -> AV} {ρc : Operand -> Value} {mu : Nat -> Prop} (hρ : ∀ x, Rv w mu π (ρ x) (ρc x)) : ∀ l : List (Nat × Operand), F5 w mu π ρ ρc l
 | [] => rfl
 | (_, x) :: l => ⟨_, _, rfl, hρ x, qN hρ l⟩
theorem sE {ρ : Operand -> AV} {ρc : Operand -> Value} {mu : Nat -> Prop} (hρ : ∀ x, Rv w mu π (ρ x) (ρc x)) : ∀ l : List Operand, RvL w mu π (l.map ρ) (l.map ρc)
 | [] => rfl
 | x :: l => ⟨_, _, rfl, hρ x, sE hρ l⟩
theorem qE {t : TypeId} {z : List AV} (h : ko P t = some z) : ∃ j : Value, (∀ w, (zeroValue t).run P w = .ok j w) /\ z = j.cells.toList.map .at := by
 unfold ko at h
 split at h
 · rename_i i hi
   split at h
   · rename_i j m; cases h; exact ⟨j, fun w => by simp [zeroValue, typeInfo, hi, m], rfl⟩
   · cases h
 · cases h
theorem tC (O : Inv out B w π H) {nid : Nat} (j : nid <= H.length) (T : ∀ q, π[nid]? ≠ some (some q)) {ρ : Operand -> AV} {ρc : Operand -> Value} (hρ : ∀ x, Rv w (aJ out π H) π (ρ x) (ρc x)) {t e : TypeId} {len n : Nat} {z cs : List AV} {parts : Array (Nat × Operand)}
  (hu : P.underlying t = some (.slice e)) (hn : eZ P e = some n) (hz : ko P e = some z) (h1 : len * n <= 16777216) (h2 : z.length = n) (h3 : z.all fI = true)
  (hf : ry (fun i => some (i * n, n)) (eU z len) (parts.toList.map fun p => (p.1, ρ p.2)) = some cs) :
  cn P out B w π H (do pure (.value (<- Instr.buildSlice t len (parts.map fun (i, x) => (i, ρc x))))) (.eff (.hs nid 0 len n) [(nid, .own cs)]) := by
 obtain ⟨D, U, rfl⟩ := qE hz
 have Y : D.cells.size = n := by simpa using h2
 have a1 := all_zero h3
 have m : ∀ z0 : Array Value, (if len * n = 0 then z0 = #[] else z0 = D.cells) -> ((Array.range (len * n)).map (z0[· % z0.size]!)).toList = (List.replicate len D.cells.toList).flatten := by
  intro z0 M
  by_cases E : len * n = 0
  · rw [if_pos E] at M; subst M
    rw [E]
    rcases Nat.mul_eq_zero.1 E with e0 | e0
    · simp [e0]
    · have : D.cells = #[] := by rw [<- Array.size_eq_zero_iff]; omega
      simp [this]
  · rw [if_neg E] at M; subst M
    have a0 : 0 < D.cells.size := by
     rw [Y]; exact Nat.pos_of_ne_zero fun e0 => E (by rw [e0]; simp)
    have := kf D.cells len a0
    rw [Y] at this
    simpa [madeCells] using this
 have J : (parts.map fun p : Nat × Operand => (p.1, ρc p.2)).toList = parts.toList.map fun p => (p.1, ρc p.2) := by simp
 have fin : ∀ z0 : Array Value, ((Array.range (len * n)).map (z0[· % z0.size]!)).toList = (List.replicate len D.cells.toList).flatten ->
   ∃ I, Instr.fill (fun i => some (i * n, n)) ((Array.range (len * n)).map (z0[· % z0.size]!)) (parts.map fun p : Nat × Operand => (p.1, ρc p.2)).toList = some I /\ RvL w (aJ out π H) π cs I.toList /\ (∀ v ∈ I.toList, v.oneCell' = true) /\ I.size = len * n := by
  intro z0 M
  obtain ⟨I, r1, r2, r3, r4⟩ := nv (w := w) (π := π) (mu := aJ out π H) (place := fun i => some (i * n, n)) (parts.toList.map fun p => (p.1, ρ p.2)) (parts.toList.map fun p => (p.1, ρc p.2)) (eU (D.cells.toList.map .at) len)
   ((Array.range (len * n)).map (z0[· % z0.size]!)) cs (by simp) (qN hρ _) (by rw [M]; exact qM _ _) (by rw [M]; exact jB a1 _) hf
  exact ⟨I, by rw [J]; exact r1, r2, r4, by rw [r3]; simp⟩
 have hle : ¬ 16777216 < len * n := by omega
 by_cases E : len * n = 0
 · obtain ⟨I, r1, r2, r3, r4⟩ := fin #[] (m #[] (by rw [if_pos E]))
   obtain ⟨hE, N⟩ := lR O j T cs I e r2 r3
   refine ⟨_, .slice (some ⟨w.heap.size, 0, none⟩) len len, _, _, ?_, .inl rfl, hE, N, .inr ⟨_, _, _, je O j _, rfl, Nat.le_refl _, rfl, fun _ => ⟨rfl, ?_⟩⟩, ik O j _ _⟩
   · have C : ¬ len * n > 2 ^ 24 := by simpa using hle
     simp only [Instr.buildSlice, Sem.run_bind, run_underlying hu, Result.andThen_ok, bO hn, Sem.run_ite, if_neg C, if_pos E, Sem.run_pure]
     rw [r1]
     rfl
   · simp [r4]
 · obtain ⟨I, r1, r2, r3, r4⟩ := fin D.cells (m D.cells (by rw [if_neg E]))
   obtain ⟨hE, N⟩ := lR O j T cs I e r2 r3
   refine ⟨_, .slice (some ⟨w.heap.size, 0, none⟩) len len, _, _, ?_, .inl rfl, hE, N, .inr ⟨_, _, _, je O j _, rfl, Nat.le_refl _, rfl, fun _ => ⟨rfl, ?_⟩⟩, ik O j _ _⟩
   · have C : ¬ len * n > 2 ^ 24 := by simpa using hle
     simp only [Instr.buildSlice, Sem.run_bind, run_underlying hu, Result.andThen_ok, bO hn, Sem.run_ite, if_neg C, if_neg E, U, Sem.run_pure]
     rw [r1]
     rfl
   · simp [r4]
theorem rF {mu : Nat -> Prop} {ρ : Operand -> AV} {ρc : Operand -> Value} (hρ : ∀ x, Rv w mu π (ρ x) (ρc x)) {t : TypeId} {C : Array Field} {z cs : List AV} {pl : List (Nat × Nat)} {parts : Array (Nat × Operand)}
  (hu : P.underlying t = some (.struct C)) (J : ko P t = some z) (hp : qX P C.toList = some pl) (h1 : z.all fI = true) (M : ry (fun i => pl[i]?) z (parts.toList.map fun p => (p.1, ρ p.2)) = some cs) :
  ∃ u, (Instr.build t (parts.map fun (i, x) => (i, ρc x))).run P w = .ok u w /\ Rv w mu π (.agg cs) u := by
 obtain ⟨E, q, rfl⟩ := qE J
 obtain ⟨I, r1, r2, r3, r4⟩ := nv (w := w) (π := π) (mu := mu) (place := fun i => pl[i]?) (parts.toList.map fun p : Nat × Operand => (p.1, ρ p.2)) (parts.toList.map fun p : Nat × Operand => (p.1, ρc p.2)) (E.cells.toList.map .at) E.cells cs (by simp) (qN hρ parts.toList) (fm _) (all_zero h1) M
 have j : (parts.map fun p : Nat × Operand => (p.1, ρc p.2)).toList = parts.toList.map fun p => (p.1, ρc p.2) := by simp
 refine ⟨.agg I, ?_, I, rfl, r2⟩
 have D : (C.mapM (m := Sem) fun f => do pure (f.offset, <- sizeOf f.type)).run P w = .ok pl.toArray w := by
  rw [Array.mapM_eq_mapM_toList]
  have := rv (P := P) w C.toList pl hp
  simp only [Sem.run_map, this, Result.andThen_ok]
 simp only [Instr.build, Sem.run_bind, q, Result.andThen_ok, run_underlying hu, D, j]
 have e : (fun x : Nat => pl.toArray[x]?) = (fun i : Nat => pl[i]?) := by funext i; simp
 simp only [e, r1]
 rfl
theorem sU {mu : Nat -> Prop} {ρ : Operand -> AV} {ρc : Operand -> Value} (hρ : ∀ x, Rv w mu π (ρ x) (ρc x)) {t e : TypeId} {len n : Nat} {z cs : List AV} {parts : Array (Nat × Operand)}
  (hu : P.underlying t = some (.array len e)) (D : ko P t = some z) (E : eZ P e = some n) (h1 : z.all fI = true) (I : ry (fun i => some (i * n, n)) z (parts.toList.map fun p => (p.1, ρ p.2)) = some cs) :
  ∃ u, (Instr.build t (parts.map fun (i, x) => (i, ρc x))).run P w = .ok u w /\ Rv w mu π (.agg cs) u := by
 obtain ⟨q, m, rfl⟩ := qE D
 obtain ⟨C, r1, r2, r3, r4⟩ := nv (w := w) (π := π) (mu := mu) (place := fun i => some (i * n, n)) (parts.toList.map fun p : Nat × Operand => (p.1, ρ p.2)) (parts.toList.map fun p : Nat × Operand => (p.1, ρc p.2)) (q.cells.toList.map .at) q.cells cs (by simp) (qN hρ parts.toList) (fm _) (all_zero h1) I
 have j : (parts.map fun p : Nat × Operand => (p.1, ρc p.2)).toList = parts.toList.map fun p => (p.1, ρc p.2) := by simp
 refine ⟨.agg C, ?_, C, rfl, r2⟩
 simp only [Instr.build, Sem.run_bind, m, Result.andThen_ok, run_underlying hu, bO E, j]
 rw [r1]
 rfl
theorem uQ (D : Inv out B w π H) {nid : Nat} (j : nid <= H.length) (E : ∀ q, π[nid]? ≠ some (some q)) {t e : TypeId} {kl kc : IntKind} {l c : Int} {n by_ : Nat} {z : List AV} (hu : P.underlying t = some (.slice e)) (hn : eZ P e = some n) (hb : pI P e = some by_) (hz : ko P e = some z)
  (h0 : 0 <= l) (I : l <= c) (J : (by_ : Int) * c <= 281474976710656) (M : c <= 9223372036854775807) (N : z.length = n) (a1 : 0 < n) (h3 : z.all fI = true) :
  cn P out B w π H (do pure (.value (<- Instr.makeSlice t (.int kl l) (.int kc c)))) (.eff (.hs nid 0 l.toNat n) [(nid, .own (eU z c.toNat))]) := by
 obtain ⟨m, i, hi, O, a0, rfl⟩ := qv hz w
 have C : i.size = n := by simpa [eZ, hi] using hn
 have T : i.bytes = by_ := by simpa [pI, hi] using hb
 have U : m.cells.size = n := by simpa using N
 have hm := run_make (P := P) w t e i m hu hi O kl kc l c h0 I (by rw [T]; exact J) M
 have he : (madeCells m.cells (c.toNat * i.size)).toList = (List.replicate c.toNat m.cells.toList).flatten := by
  rw [C, <- U]; exact kf m.cells c.toNat (by omega)
 obtain ⟨hE, Y⟩ := lR D j E (eU (m.cells.toList.map .at) c.toNat) (madeCells m.cells (c.toNat * i.size)) e (by rw [he]; exact qM _ _) (by rw [he]; exact jB (all_zero h3) _)
 exact ⟨_, .slice (some ⟨w.heap.size, 0, none⟩) l.toNat c.toNat, _, _, by simp [hm], .inl rfl, hE, Y, .inr ⟨_, _, _, je D j _, rfl, by omega, rfl, fun _ => ⟨rfl, by simp [size_madeCells, C]⟩⟩, ik D j _ _⟩
end
section
variable {P : Program} {out : Nat -> Prop} {B : Nat -> Prop} {w : World} {π : List (Option PB)} {H : List Blk}
theorem oJ (O : Inv out B w π H) {n : Nat} {x : AV} {v : Value} {cs : List AV} {m : Nat} (hx : Rv w (aJ out π H) π x v) (h : gw H n x = some (cs, m)) :
  ∃ a cap, v = .slice a m cap /\ (a = none -> m = 0) /\ m <= cap /\ ∃ vs : List Value, vs.length = m * n /\ RvL w (aJ out π H) π cs vs /\ (∀ u ∈ vs, u.oneCell' = true) /\ (∀ b, a = some b -> ∀ j u, vs[j]? = some u -> w.cell? (b.add j) = some u) := by
 unfold gw at h
 split at h
 · cases h; cases hx; exact ⟨none, 0, rfl, fun _ => rfl, Nat.le_refl _, [], by simp, rfl, by simp, fun b hb => by cases hb⟩
 · rename_i nl c len
   split at h
   · rename_i M
     simp only [decide_eq_true_eq] at M
     cases h
     rcases hx with ⟨_, rfl, rfl, rfl⟩ | ⟨b, o, cap, rfl, h2, N, T⟩ | ⟨rfl, rfl, a, cap, rfl⟩
     rotate_left 2
     · exact ⟨some a, cap, rfl, fun _ => rfl, Nat.zero_le _, [], by simp, rfl, by simp, fun b hb j u C => by simp at C⟩
     · exact ⟨none, 0, rfl, fun _ => rfl, Nat.le_refl _, [], by simp, rfl, by simp, fun b hb => by cases hb⟩
     · obtain ⟨vs, g1, D, E, I⟩ := qP T.lift (Nat.le_refl _)
       rw [List.take_length] at D
       exact ⟨_, cap, rfl, (fun e => by cases e), h2, vs, by rw [g1]; exact M, D, E, fun Y J => by cases J; exact I⟩
   · cases h
 · rename_i i off len es
   rcases hx with ⟨rfl, rfl⟩ | ⟨p, a, cap, h1, rfl, h2, U, N⟩
   · have : cs = [] /\ m = 0 := by
      split at h
      · split at h
        · cases h; simp
        · cases h
      · split at h
        · cases h; simp
        · cases h
      · cases h
     obtain ⟨rfl, rfl⟩ := this
     exact ⟨none, 0, rfl, fun _ => rfl, Nat.le_refl _, [], by simp, rfl, by simp, fun b hb => by cases hb⟩
   have key : ∀ c : List AV, (H[i]? = some (.own c) \/ H[i]? = some (.fix c)) -> off + len * n <= c.length -> cs = (c.drop off).take (len * n) -> m = len ->
     ∃ a' q, Value.slice (some a) len cap = .slice a' m q /\ (a' = none -> m = 0) /\ m <= q /\ ∃ vs : List Value, vs.length = m * n /\ RvL w (aJ out π H) π cs vs /\ (∀ u ∈ vs, u.oneCell' = true) /\ (∀ b, a' = some b -> ∀ j u, vs[j]? = some u -> w.cell? (b.add j) = some u) := by
    intro c hc hle e1 e2
    subst e1; subst e2
    obtain ⟨vs, g1, D, E, I⟩ := qP (n := m * n) (RvC.drop off c _ _ (fC O hc h1)) (by simp; omega)
    refine ⟨_, cap, rfl, (fun e => by cases e), h2, vs, g1, D, E, fun b hb => ?_⟩
    cases hb
    intro j u C
    by_cases z : 0 < cap
    · rw [(N z).1]; exact I j u C
    · have : vs.length = 0 := by rw [g1]; have : m = 0 := by omega
                                 simp [this]
      rw [List.length_eq_zero_iff] at this
      subst this; simp at C
   split at h
   · rename_i c hc
     split at h
     · rename_i hle; cases h; exact key c (.inl hc) (by simpa using hle) rfl rfl
     · cases h
   · rename_i c hc
     split at h
     · rename_i hle; cases h; exact key c (.inr hc) (by simpa using hle) rfl rfl
     · cases h
   · cases h
 · cases h
theorem jF {n m cap : Nat} {a : Option Addr} {vs : List Value} (w : World) (q : vs.length = m * n) (z : a = none -> m = 0) (h : ∀ b, a = some b -> ∀ j u, vs[j]? = some u -> w.cell? (b.add j) = some u) :
  (Builtin.firstCells n m (.slice a m cap)).run P w = .ok vs.toArray w := by
 cases a with
 | none =>
  have : vs = [] := by rw [<- List.length_eq_zero_iff, q, z rfl]; simp
  subst this; rfl
 | some b => exact run_firstCells_some w n m b m cap vs q (h b rfl)
theorem yo (T : Inv out B w π H) {nid : Nat} (C : nid <= H.length) (a4 : ∀ q, π[nid]? ≠ some (some q)) {t t' e e' ty : TypeId} {n by_ : Nat} {z : List AV} {s x : AV} {vs vx : Value} {r : bs} (ht : P.underlying t = some (.slice e)) (a8 : P.underlying t' = some (.slice e'))
  (hn : eZ P e = some n) (hb : pI P e = some by_) (hz : ko P e = some z) (b6 : z.length = n) (hs : Rv w (aJ out π H) π s vs) (hx : Rv w (aJ out π H) π x vx) (h : ki H nid n by_ s x = some r) :
  cn P out B w π H (do pure (.value (<- Builtin.append_ #[t, t'] ty #[vs, vx]))) r := by
 obtain ⟨zv, i, hi, b7, g3, rfl⟩ := qv hz w
 have b8 : i.size = n := by simpa [eZ, hi] using hn
 have b9 : i.bytes = by_ := by simpa [pI, hi] using hb
 unfold ki at h
 split at h
 · cases h
 · rename_i new m hc
   obtain ⟨a, cap, rfl, h0, h1, us, a1, J, Y, a5⟩ := oJ T hx hc
   have b4 := jF (P := P) (cap := cap) w a1 h0 a5
   have b5 := jF (P := P) (cap := cap) w.drew a1 h0 (by simpa using a5)
   have nothing : m = 0 -> us = [] /\ new = [] := by
    intro hm
    have c6 : us = [] := by rw [<- List.length_eq_zero_iff, a1, hm]; simp
    subst c6
    have := RvL.length _ _ J
    exact ⟨rfl, by rw [<- List.length_eq_zero_iff]; simpa using this.symm⟩
   have fin : m = 0 -> ∀ (b : Option Addr) (l c : Nat), l <= c -> (Builtin.append_ #[t, t'] ty #[.slice b l c, .slice a m cap]).run P w = .ok (.slice b l c) w := by
    intro hm b l c c7
    obtain ⟨rfl, _⟩ := nothing hm
    subst hm
    cases b with
    | none => simp [Builtin.append_, run_underlying ht, run_underlying a8, bO hn, Builtin.lenOf, c7, b4]
    | some b => simp [Builtin.append_, run_underlying ht, run_underlying a8, bO hn, Builtin.lenOf, c7, b4, storeCells]
   by_cases b0 : m = 0
   ·
    obtain ⟨g4, c0⟩ := nothing b0
    have a0 := fin b0
    clear b4 b5 nothing fin a1 J Y a5
    split at h
    · split at h
      · cases h; cases hs
        obtain ⟨O, E⟩ := T.u6 C a4 (.own new)
        refine ⟨_, .slice none 0 0, w, upd π nid none, by simp only [Sem.run_bind, a0 none 0 0 (Nat.le_refl _), Result.andThen_ok]; rfl, .inl rfl, O, E, .inl ⟨b0, rfl⟩, ik T C _ _⟩
      · cases h
    · split at h
      · cases h
        have c1 := hs
        rcases hs with ⟨rfl, rfl, rfl, rfl⟩ | ⟨b, o, c, rfl, g2, _⟩ | ⟨rfl, rfl, a, c, rfl⟩
        · exact cn.value (a0 _ _ _ (Nat.le_refl _)) c1
        · exact cn.value (a0 _ _ _ g2) c1
        · exact cn.value (a0 _ _ _ (Nat.zero_le _)) c1
      · cases h
    · rename_i i' off len es
      split at h
      · rename_i cs hH
        split at h
        · rename_i I
          simp only [Bool.and_eq_true, decide_eq_true_eq] at I
          obtain ⟨⟨⟨⟨rfl, k0⟩, k1⟩, k2⟩, k3⟩ := I
          cases h
          subst b0; subst c0
          rcases hs with ⟨rfl, rfl⟩ | ⟨p, b, D, a9, rfl, h2, c8, h3⟩
          · obtain ⟨U, a6⟩ := T.kill i' (w' := w) rfl rfl rfl rfl (fun _ => Nat.le_refl _)
            obtain ⟨O, E⟩ := a6.u6 (by simpa using C) a4 (.own ((cs.drop off).take (0 * es) ++ []))
            have M : aM H [(i', .dead), (nid, .own ((cs.drop off).take (0 * es) ++ []))] = upd (H.set i' .dead) nid (.own ((cs.drop off).take (0 * es) ++ [])) := by simp [aM, upd, aT hH]
            rw [<- M] at O E
            exact ⟨_, .slice none 0 0, w, upd π nid none, by simp only [Sem.run_bind, a0 none 0 0 (Nat.le_refl _), Result.andThen_ok]; rfl, .inl rfl, U.trans O, E, .inl ⟨rfl, rfl⟩, fun j hj => ik T C none (.own ((cs.drop off).take (0 * es) ++ [])) j (fun b hb => hj b (by simp at hb ⊢; exact .inr hb))⟩
          · obtain ⟨⟨c, te, N, c2⟩, hC⟩ := T.ok i' _ p hH a9
            obtain ⟨O, E⟩ := T.grow hH a9 rfl (.own ((cs.drop off).take (len * es) ++ [])) ⟨p.blk, p.off + off, p.size⟩ rfl C a4 (w' := w) rfl (fun _ _ => rfl) rfl rfl rfl (fun _ => Nat.le_refl _) (fun O => by
             refine ⟨⟨c, te, N, c2⟩, ?_⟩
             have e5 := RvC.ext O ((cs.drop off).take (len * es)) _ _ rfl (RvC.take (len * es) _ _ _ (RvC.drop off cs _ _ hC))
             simpa using e5)
            have M : aM H [(i', .dead), (nid, .own ((cs.drop off).take (len * es) ++ []))] = upd (H.set i' .dead) nid (.own ((cs.drop off).take (len * es) ++ [])) := by simp [aM, upd, aT hH]
            rw [<- M] at O E
            refine ⟨_, .slice (some b) len D, w, _, by simp only [Sem.run_bind, a0 (some b) len D h2, Result.andThen_ok]; rfl, .inl rfl, O, E, .inr ⟨⟨p.blk, p.off + off, p.size⟩, b, D, je T C _, rfl, by omega, c8, fun e6 => ?_⟩, fun j hj => ik T C _ (.own ((cs.drop off).take (len * es) ++ [])) j (fun b hb => hj b (by simp at hb ⊢; exact .inr hb))⟩
            obtain ⟨e1, e2⟩ := h3 e6
            exact ⟨by rw [e1, Nat.add_zero], by simpa using e2⟩
        · cases h
      · cases h
    · cases h
   obtain ⟨m, rfl⟩ : ∃ m', m = m' + 1 := ⟨m - 1, by omega⟩
   clear fin nothing b0
   change us.length = (m + 1) * n at a1
   split at h
   ·
    split at h
    · rename_i I
      simp only [Bool.and_eq_true, decide_eq_true_eq] at I
      obtain ⟨⟨k1, k2⟩, k3⟩ := I
      cases h; cases hs
      have a7 := growslice_fits (need := m + 1) (old := 0) (bytes := by_) (by omega) k1
      have g1 : ¬ 9223372036854775807 < ((m : Int) + 1) := by omega
      have g2 : ¬ 281474976710656 < Builtin.nextslicecap (m + 1) 0 * by_ := by omega
      obtain ⟨U, a6⟩ := T.same (w' := w.drew) rfl rfl rfl rfl (fun _ => Nat.le_succ _)
      have hlen := RvL.length _ _ J
      obtain ⟨O, E⟩ := sW a6 C a4 new (us.toArray ++ Builtin.zeroCells zv.cells (grownCap w (m + 1) 0 e - (m + 1))) e (by
        have : (us.toArray ++ Builtin.zeroCells zv.cells (grownCap w (m + 1) 0 e - (m + 1))).toList.take new.length = us := by simp [<- hlen]
        rw [this]; exact RvL.ext U _ _ J) (by
        have : (us.toArray ++ Builtin.zeroCells zv.cells (grownCap w (m + 1) 0 e - (m + 1))).toList.take new.length = us := by simp [<- hlen]
        rw [this]; exact Y)
      have b1 : m + 1 <= grownCap w (m + 1) 0 e := by simp [grownCap, Question.cut]
      have a3 : zv.cells.size = n := by simpa using b6
      have e0 : (grownCap w (m + 1) 0 e - (m + 1)) * n + (m + 1) * n = grownCap w (m + 1) 0 e * n := by rw [<- Nat.add_mul]; congr 1; omega
      refine ⟨_, .slice (some ⟨w.heap.size, 0, none⟩) (m + 1) (grownCap w (m + 1) 0 e), _, _, ?_, .inl rfl, U.trans O, E, .inr ⟨_, _, _, je T C _, rfl, b1, rfl, fun _ => ⟨rfl, ?_⟩⟩, ik T C _ _⟩
      · simp [Builtin.append_, run_underlying ht, run_underlying a8, sizeOf, typeInfo, zeroValue, hi, b7, Builtin.lenOf, b8, b9, g1, g2, Question.forced, run_firstCells_none, b5, newRow, grownCap]
      · simp only [Array.size_append, List.size_toArray, a1, size_zeroCells, a3]
        omega
    · cases h
   · split at h
     · rename_i h9; simp at h9
     · cases h
   ·
    rename_i i' off len es
    split at h
    · rename_i cs hH
      split at h
      · rename_i I
        simp only [Bool.and_eq_true, decide_eq_true_eq] at I
        obtain ⟨⟨⟨⟨rfl, k0⟩, k1⟩, k2⟩, k3⟩ := I
        cases h
        rcases hs with ⟨rfl, rfl⟩ | ⟨p, b, D, a9, rfl, h2, c8, h3⟩
        ·
         have a7 := growslice_fits (need := m + 1) (old := 0) (bytes := by_) (by omega) (by simpa using k2)
         have g1 : ¬ 9223372036854775807 < ((m : Int) + 1) := by omega
         have g2 : ¬ 281474976710656 < Builtin.nextslicecap (m + 1) 0 * by_ := by omega
         obtain ⟨U, a6⟩ := T.kill i' (w' := w.drew) rfl rfl rfl rfl (fun _ => Nat.le_succ _)
         have hlen := RvL.length _ _ J
         obtain ⟨O, E⟩ := sW a6 (by simpa using C) a4 ((cs.drop off).take (0 * es) ++ new) (us.toArray ++ Builtin.zeroCells zv.cells (grownCap w (m + 1) 0 e - (m + 1))) e (by
           have : (us.toArray ++ Builtin.zeroCells zv.cells (grownCap w (m + 1) 0 e - (m + 1))).toList.take ((cs.drop off).take (0 * es) ++ new).length = us := by simp [<- hlen]
           rw [this]; simpa using RvL.ext U _ _ J) (by
           have : (us.toArray ++ Builtin.zeroCells zv.cells (grownCap w (m + 1) 0 e - (m + 1))).toList.take ((cs.drop off).take (0 * es) ++ new).length = us := by simp [<- hlen]
           rw [this]; exact Y)
         have b1 : m + 1 <= grownCap w (m + 1) 0 e := by simp [grownCap, Question.cut]
         have a3 : zv.cells.size = es := by simpa using b6
         have e0 : (grownCap w (m + 1) 0 e - (m + 1)) * es + (m + 1) * es = grownCap w (m + 1) 0 e * es := by rw [<- Nat.add_mul]; congr 1; omega
         have M : aM H [(i', .dead), (nid, .own ((cs.drop off).take (0 * es) ++ new))] = aM (H.set i' .dead) [(nid, .own ((cs.drop off).take (0 * es) ++ new))] := by simp [aM, upd, aT hH]
         rw [<- M] at O E
         refine ⟨_, .slice (some ⟨w.heap.size, 0, none⟩) (m + 1) (grownCap w (m + 1) 0 e), _, _, ?_, .inl rfl, U.trans O, E, .inr ⟨_, ⟨w.heap.size, 0, none⟩, grownCap w (m + 1) 0 e, je T C _, by rw [Nat.zero_add], by rw [Nat.zero_add]; exact b1, rfl, fun _ => ⟨rfl, ?_⟩⟩, fun j hj => ik T C _ (.own ((cs.drop off).take (0 * es) ++ new)) j (fun b hb => hj b (by simp at hb ⊢; exact .inr hb))⟩
         · simp [Builtin.append_, run_underlying ht, run_underlying a8, sizeOf, typeInfo, zeroValue, hi, b7, Builtin.lenOf, b8, b9, g1, g2, Question.forced, run_firstCells_none, b5, newRow, grownCap]
         · simp only [Array.size_append, List.size_toArray, a1, size_zeroCells, a3]
           omega
        obtain ⟨⟨c, te, N, c2⟩, hC⟩ := T.ok i' _ p hH a9
        have a3 : zv.cells.size = es := by simpa using b6
        obtain ⟨os, o1, o2, o3, o4⟩ := qP (n := len * es) (RvC.drop off cs _ _ hC) (by simp; omega)
        have b3 : ∀ (w' : World), (∀ ad, w'.cell? ad = w.cell? ad) -> ∀ b', some b = some b' -> ∀ j u, os[j]? = some u -> w'.cell? (b'.add j) = some u := by
         intro w' e7 b' c3 j u hj
         cases c3
         rw [e7]
         by_cases c9 : 0 < D
         · rw [(h3 c9).1]; exact o4 j u hj
         · have : os.length = 0 := by
            rw [o1]; have : len = 0 := by omega
            simp [this]
           rw [List.length_eq_zero_iff] at this
           subst this; simp at hj
        by_cases a2 : len + (m + 1) <= D
        ·
         obtain ⟨c3, a7⟩ := h3 (by omega)
         subst c3
         have hK : p.off + off + len * es + us.length <= c.size := by
          rw [a1, c2]
          have : len * es + (m + 1) * es <= D * es := by rw [<- Nat.add_mul]; exact Nat.mul_le_mul_right _ a2
          omega
         have e3 := run_storeCells_at P p.blk (p.off + off + len * es) te us 0 c w N (by simpa using hK) Y
         simp only [Nat.add_zero] at e3
         have c4 : (Builtin.append_ #[t, t'] ty #[.slice (some ⟨p.blk, p.off + off, none⟩) len D, .slice a (m + 1) cap]).run P w =
           .ok (.slice (some ⟨p.blk, p.off + off, none⟩) (len + (m + 1)) D) (w.setRow p.blk (c.toList.take (p.off + off + len * es) ++ us ++ c.toList.drop (p.off + off + len * es + us.length)).toArray) := by
          simp [Builtin.append_, run_underlying ht, run_underlying a8, bO hn, Builtin.lenOf, a2, b4, gR, e3]
         obtain ⟨O, E⟩ := T.grow hH a9 rfl (.own ((cs.drop off).take (len * es) ++ new)) ⟨p.blk, p.off + off, p.size⟩ rfl C a4 (w' := w.setRow p.blk (c.toList.take (p.off + off + len * es) ++ us ++ c.toList.drop (p.off + off + len * es + us.length)).toArray)
          (by simp) (fun b hb => by simp only [World.setRow, Array.getElem?_modify]; rw [if_neg (by omega)]) rfl rfl rfl (fun _ => Nat.le_refl _) (fun O => by
           refine ⟨⟨_, te, setRow_heap w _ c _ te _ N, ?_⟩, ?_⟩
           · simp; omega
           · refine jP _ (os ++ us) _ _ (RvL.append _ _ _ _ (RvL.ext O _ _ o2) (RvL.ext O _ _ J)) ?_ ?_
             · intro u hu
               rcases List.mem_append.1 hu with hu | hu
               · exact o3 u hu
               · exact Y u hu
             · intro j u hj
               simp only [World.cell?, setRow_heap w _ c _ te _ N]
               simp only [Option.isSome_none, Bool.false_eq_true, if_false, List.getElem?_toArray]
               have c5 : (c.toList.take (p.off + off + len * es)).length = p.off + off + len * es := by simp; omega
               rw [List.append_assoc]
               by_cases e8 : j < os.length
               · rw [List.getElem?_append_left e8] at hj
                 rw [List.getElem?_append_left (by rw [c5]; omega), List.getElem?_take, if_pos (by omega)]
                 have := o4 j u hj
                 rw [gR] at this
                 simp only [World.cell?, N] at this
                 simpa using this
               · rw [List.getElem?_append_right (by omega)] at hj
                 rw [List.getElem?_append_right (by rw [c5]; omega), c5, show p.off + off + j - (p.off + off + len * es) = j - os.length by omega]
                 rw [List.getElem?_append_left (aT hj)]
                 exact hj)
         have M : aM H [(i', .dead), (nid, .own ((cs.drop off).take (len * es) ++ new))] = upd (H.set i' .dead) nid (.own ((cs.drop off).take (len * es) ++ new)) := by simp [aM, upd, aT hH]
         rw [<- M] at O E
         refine ⟨_, .slice (some ⟨p.blk, p.off + off, none⟩) (len + (m + 1)) D, _, _, by simp only [Sem.run_bind, c4, Result.andThen_ok]; rfl, .inl rfl, O, E, .inr ⟨_, _, _, je T C _, rfl, a2, rfl, fun _ => ⟨rfl, ?_⟩⟩, fun j hj => ik T C _ (.own ((cs.drop off).take (len * es) ++ new)) j (fun b hb => hj b (by simp at hb ⊢; exact .inr hb))⟩
         simpa using a7
        ·
         have a7 := growslice_fits (need := len + (m + 1)) (old := D) (bytes := by_) (by omega) k2
         have g1 : ¬ 9223372036854775807 < ((len : Int) + ((m : Int) + 1)) := by omega
         have g2 : ¬ 281474976710656 < Builtin.nextslicecap (len + (m + 1)) D * by_ := by omega
         obtain ⟨U, a6⟩ := Inv.tG T hH a9 rfl .dead (w' := w.drew) rfl (fun _ _ => rfl) rfl rfl rfl (fun _ => Nat.le_succ _) (fun _ => trivial)
         have hlen := RvL.length _ _ J
         have e9 := jF (P := P) (cap := D) (a := some b) w.drew o1 (fun e => by cases e) (b3 w.drew (fun _ => by simp))
         have g0 := RvL.length _ _ o2
         have e4 : (os.toArray ++ us.toArray ++ Builtin.zeroCells zv.cells (grownCap w (len + (m + 1)) D e - (len + (m + 1)))).toList.take ((cs.drop off).take (len * es) ++ new).length = os ++ us := by
          simp only [Array.toList_append, List.length_append]
          rw [<- g0, <- hlen, <- List.length_append, List.take_left]
         obtain ⟨O, E⟩ := sW a6 (by simpa using C) a4 ((cs.drop off).take (len * es) ++ new) (os.toArray ++ us.toArray ++ Builtin.zeroCells zv.cells (grownCap w (len + (m + 1)) D e - (len + (m + 1)))) e
          (by rw [e4]; exact RvL.ext U _ _ (RvL.append _ _ _ _ o2 J)) (by
           rw [e4]; intro u hu
           rcases List.mem_append.1 hu with hu | hu
           · exact o3 u hu
           · exact Y u hu)
         have b1 : len + (m + 1) <= grownCap w (len + (m + 1)) D e := by simp [grownCap, Question.cut]
         have e0 : (grownCap w (len + (m + 1)) D e - (len + (m + 1))) * es + (len * es + (m + 1) * es) = grownCap w (len + (m + 1)) D e * es := by
          rw [<- Nat.add_mul, <- Nat.add_mul]; congr 1; omega
         have M : aM H [(i', .dead), (nid, .own ((cs.drop off).take (len * es) ++ new))] = aM (H.set i' .dead) [(nid, .own ((cs.drop off).take (len * es) ++ new))] := by simp [aM, upd, aT hH]
         rw [<- M] at O E
         refine ⟨_, .slice (some ⟨w.heap.size, 0, none⟩) (len + (m + 1)) (grownCap w (len + (m + 1)) D e), _, _, ?_, .inl rfl, U.trans O, E, .inr ⟨_, _, _, je T C _, rfl, b1, rfl, fun _ => ⟨rfl, ?_⟩⟩, fun j hj => ik T C _ (.own ((cs.drop off).take (len * es) ++ new)) j (fun b hb => hj b (by simp at hb ⊢; exact .inr hb))⟩
         · simp [Builtin.append_, run_underlying ht, run_underlying a8, sizeOf, typeInfo, zeroValue, hi, b7, Builtin.lenOf, b8, b9, g1, g2, a2, Question.forced, e9, b5, newRow, grownCap]
           congr 2
           apply Array.ext'
           simp [List.append_assoc]
         · simp only [Array.size_append, List.size_toArray, o1, a1, size_zeroCells, a3]
           omega
      · cases h
    · cases h
   · cases h
end
def rB (P : Program) : Prop := ∀ (f : Nat) (fn : Func), P.funcs[f]? = some fn -> fn.name ≠ "runtime.NumGoroutine"
section
variable {P : Program} {out : Nat -> Prop} {B : Nat -> Prop} {w : World} {π : List (Option PB)} {H : List Blk}
theorem A7 (hI : Inv out B w π H) {at_ : Array TypeId} {t e ty : TypeId} {n : Nat} {d x : AV} {vd vx : Value} {r : bs} (h0 : at_[0]? = some t) (ht : P.underlying t = some (.slice e)) (hn : eZ P e = some n)
  (hd : Rv w (aJ out π H) π d vd) (hx : Rv w (aJ out π H) π x vx) (h : vR H n d x = some r) : cn P out B w π H (do pure (.value (<- Builtin.copy_ at_ ty #[vd, vx]))) r := by
 unfold vR at h
 split at h
 · cases h
 rename_i new m hc
 obtain ⟨a, cap, rfl, J, a5, us, M, C, N, E⟩ := oJ hI hx hc
 split at h
 rotate_left
 · cases h
 rename_i i off len es
 split at h
 rotate_left
 · cases h
 rename_i cs O
 split at h
 rotate_left
 · cases h
 rename_i z
 cases h
 simp only [Bool.and_eq_true, decide_eq_true_eq] at z
 obtain ⟨rfl, hle⟩ := z
 have T : Nat.min m len <= m := Nat.min_le_left _ _
 have a0 : Nat.min m len <= len := Nat.min_le_right _ _
 have a6 : Nat.min m len * es <= m * es := Nat.mul_le_mul_right _ T
 have a7 : Nat.min m len * es <= len * es := Nat.mul_le_mul_right _ a0
 have q : aM H [(i, .own cs)] = H := by
  simp only [aM, upd, aT O, if_true]
  apply List.ext_getElem?
  intro j
  rw [List.getElem?_set]
  split
  · rename_i a1; subst a1; rw [if_pos (aT O)]; exact O.symm
  · rfl
 have U : ∀ k, k <= m -> (Builtin.firstCells es k (.slice a m cap)).run P w = .ok (us.take (k * es)).toArray w := by
  intro k hk
  cases a with
  | none =>
   have := J rfl
   subst this
   have : us = [] := by rw [<- List.length_eq_zero_iff, M]; simp
   subst this; simp [Builtin.firstCells]
  | some b =>
   refine run_firstCells_some w es k b m cap _ ?_ fun j u hj => E b rfl j u ?_
   · rw [List.length_take, M]; exact Nat.min_eq_left (Nat.mul_le_mul_right _ hk)
   · rw [List.getElem?_take] at hj
     split at hj
     · exact hj
     · cases hj
 rcases hd with ⟨rfl, rfl⟩ | ⟨p, ad, D, hp, rfl, a8, a9, Y⟩
 ·
  have e0 : Nat.min m 0 = 0 := Nat.min_zero m
  have I := U 0 (Nat.zero_le _)
  simp only [e0, Nat.zero_mul, List.take_zero, setCells] at I ⊢
  refine ⟨.value (.int .i64 0), .int .i64 0, w, π, ?_, .inl rfl, ?_, ?_, rfl, fun _ _ => rfl⟩
  · simp [Builtin.copy_, h0, run_underlying ht, bO hn, Builtin.lenOf, e0, I, goInt]
  · rw [q]; exact Ext.refl _ _ _
  · rw [q]; exact hI
 · have I := U _ T
   by_cases hz : Nat.min m len * es = 0
   · rw [hz] at I
     simp only [hz, List.take_zero, setCells] at I ⊢
     refine ⟨.value (.int .i64 (Nat.min m len : Nat)), .int .i64 (Nat.min m len : Nat), w, π, ?_, .inl rfl, ?_, ?_, rfl, fun _ _ => rfl⟩
     · simp only [Builtin.copy_] at *
       simp [h0, run_underlying ht, bO hn, Builtin.lenOf, I, storeCells, goInt]
     · rw [q]; exact Ext.refl _ _ _
     · rw [q]; exact hI
   · have a2 : 0 < D := by
      rcases Nat.eq_zero_or_pos D with h | h
      · have : Nat.min m len = 0 := by omega
        rw [this] at hz; simp at hz
      · exact h
     obtain ⟨a3, _⟩ := Y a2
     obtain ⟨ab, ao, b0⟩ := ad
     have a4 : RvL w (aJ out π H) π (new.take (Nat.min m len * es)) (us.take (Nat.min m len * es)) := RvL.take _ _ _ C
     have b1 := RvL.length _ _ C
     obtain ⟨w', r1, r2, r3⟩ := nE (P := P) hp (new.take (Nat.min m len * es)) (us.take (Nat.min m len * es)) 0 off cs w H hI O a4 (fun v hv => N v (List.mem_of_mem_take hv)) (by rw [List.length_take]; omega)
     have hu : aM H [(i, .own (setCells cs off (new.take (Nat.min m len * es))))] = H.set i (.own (setCells cs off (new.take (Nat.min m len * es)))) := by simp [aM, upd, aT O]
     rw [Nat.add_zero] at r2 r3
     refine ⟨.value (.int .i64 (Nat.min m len : Nat)), .int .i64 (Nat.min m len : Nat), w', π, ?_, .inl rfl, by rw [hu]; exact r2, by rw [hu]; exact r3, rfl, fun _ _ => rfl⟩
     rw [a3]
     simp only [Builtin.copy_] at *
     simp [h0, run_underlying ht, bO hn, Builtin.lenOf, I, r1, goInt]
theorem wX (J : Inv out B w π H) {nid : Nat} (m : nid <= H.length) (N : ∀ q, π[nid]? ≠ some (some q)) {t t' e ty : TypeId} {kk : IntKind} {n by_ : Nat} {z : List AV} {s x : AV} {vs vx : Value} {r : bs} (ht : P.underlying t = some (.slice e)) (O : P.underlying t' = some (.int kk))
  (hn : eZ P e = some n) (hb : pI P e = some by_) (hz : ko P e = some z) (hs : Rv w (aJ out π H) π s vs) (hx : Rv w (aJ out π H) π x vx) (h : sR nid n by_ z s x = some r) :
  cn P out B w π H (do pure (.value (<- Builtin.append_ #[t, t'] ty #[vs, vx]))) r := by
 obtain ⟨j, i, hi, T, b1, rfl⟩ := qv hz w
 have U : i.size = n := by simpa [eZ, hi] using hn
 have Y : i.bytes = by_ := by simpa [pI, hi] using hb
 unfold sR at h
 split at h
 · rename_i k
   split at h
   · rename_i C
     simp only [Bool.and_eq_true, decide_eq_true_eq] at C
     obtain ⟨⟨⟨⟨⟨k0, k1⟩, k2⟩, k3⟩, k4⟩, k5⟩ := C
     cases h; cases hs; cases hx
     obtain ⟨M, rfl⟩ : ∃ M : Nat, k = (M : Int) := ⟨k.toNat, by omega⟩
     have hM : 0 < M := by omega
     have a0 : ¬ M = 0 := by omega
     have hk : ((M : Int)).toNat = M := by omega
     rw [hk] at k2 ⊢
     have b3 := growslice_fits (need := M) (old := 0) (bytes := by_) (by omega) k2
     have g1 : ¬ 9223372036854775807 < (M : Int) := by omega
     have g2 : ¬ 281474976710656 < Builtin.nextslicecap M 0 * by_ := by omega
     have hw : IntKind.i64.wrap ((M : Int)) = (M : Int) := by
      simp [IntKind.wrap, IntKind.bits, IntKind.signed]; omega
     have g3 : ¬ (2 : Int) ^ 48 < (M : Int) * (by_ : Int) := by
      rw [<- Int.natCast_mul]; omega
     obtain ⟨a1, a2⟩ := J.same (w' := w.drew) rfl rfl rfl rfl (fun _ => Nat.le_succ _)
     have D : j.cells.size = n := by simpa using k4
     have a3 : (Builtin.zeroCells j.cells M).toList = (List.replicate M j.cells.toList).flatten := kf j.cells M (by omega)
     have E : ∀ (w0 : World) (a4 : Nat -> Prop) (π0 : List (Option PB)), RvL w0 a4 π0 (eU (j.cells.toList.map .at) M) ((List.replicate M j.cells.toList).flatten) := fun _ _ _ => qM _ _
     have hlen := RvL.length _ _ (E w (aJ out π H) π)
     have I : (Builtin.zeroCells j.cells M ++ Builtin.zeroCells j.cells (grownCap w M 0 e - M)).toList.take (eU (j.cells.toList.map .at) M).length = (List.replicate M j.cells.toList).flatten := by
      rw [<- hlen, Array.toList_append, a3, List.take_left']
      rfl
     obtain ⟨hE, a5⟩ := sW a2 m N (eU (j.cells.toList.map .at) M) (Builtin.zeroCells j.cells M ++ Builtin.zeroCells j.cells (grownCap w M 0 e - M)) e (by rw [I]; exact E _ _ _) (by rw [I]; exact jB (all_zero k5) _)
     have a6 : M <= grownCap w M 0 e := by simp [grownCap, Question.cut]
     have e0 : (grownCap w M 0 e - M) * n + M * n = grownCap w M 0 e * n := by rw [<- Nat.add_mul]; congr 1; omega
     refine ⟨_, .slice (some ⟨w.heap.size, 0, none⟩) M (grownCap w M 0 e), _, _, ?_, .inl rfl, a1.trans hE, a5, .inr ⟨_, _, _, je J m _, rfl, a6, rfl, fun _ => ⟨rfl, ?_⟩⟩, ik J m _ _⟩
     · have a7 : ¬ M * n = 0 := by
        intro h0; rcases Nat.mul_eq_zero.1 h0 with h0 | h0 <;> omega
       have a8 : ¬ n = 0 := by omega
       have a9 : ¬ 281474976710656 < (M : Int) * (by_ : Int) := by rw [<- Int.natCast_mul]; omega
       have g4 : M <= 9223372036854775807 := by omega
       have b0 : ¬ (M : Int) < 0 := by omega
       simp only [Builtin.append_]
       simp [run_underlying ht, run_underlying O, sizeOf, typeInfo, zeroValue, hi, T, asInt, asIntOf, hw, b0, a9, a0, a8, g4, U, Y, g1, g2, a7, Question.forced, run_firstCells_none, newRow, grownCap]
     · simp only [Array.size_append, size_zeroCells, D]
       omega
   · cases h
 · cases h
theorem zP (U : Inv out B w π H) {at_ : Array TypeId} {t e ty : TypeId} {n : Nat} {z : List AV} {d : AV} {vd : Value} {r : bs} (Y : at_[0]? = some t) (ht : P.underlying t = some (.slice e)) (hn : eZ P e = some n) (hz : ko P e = some z)
  (hd : Rv w (aJ out π H) π d vd) (h : rW H n z d = some r) : cn P out B w π H (do pure (.value (<- Builtin.clear_ at_ ty #[vd]))) r := by
 obtain ⟨C, i0, hi, a8, I, rfl⟩ := qv hz w
 unfold rW at h
 split at h
 rotate_left
 · cases h
 rename_i i off len es
 split at h
 rotate_left
 · cases h
 rename_i cs J
 split at h
 rotate_left
 · cases h
 rename_i D
 cases h
 simp only [Bool.and_eq_true, decide_eq_true_eq] at D
 obtain ⟨⟨⟨⟨rfl, hle⟩, a0⟩, E⟩, a1⟩ := D
 have q : aM H [(i, .own cs)] = H := by
  simp only [aM, upd, aT J, if_true]
  apply List.ext_getElem?
  intro j
  rw [List.getElem?_set]
  split
  · rename_i a2; subst a2; rw [if_pos (aT J)]; exact J.symm
  · rfl
 have a3 : C.cells.size = es := by simpa using a0
 rcases hd with ⟨rfl, rfl⟩ | ⟨p, ad, M, hp, rfl, a9, b0, N⟩
 · simp only [eU, setCells]
   refine ⟨.value (.tuple #[]), .tuple #[], w, π, ?_, .inl rfl, ?_, ?_, rfl, fun _ _ => rfl⟩
   · simp [Builtin.clear_, Y, run_underlying ht]
   · rw [q]; exact Ext.refl _ _ _
   · rw [q]; exact U
 · cases len with
   | zero =>
    simp only [eU, setCells]
    refine ⟨.value (.tuple #[]), .tuple #[], w, π, ?_, .inl rfl, ?_, ?_, rfl, fun _ _ => rfl⟩
    · simp [Builtin.clear_, Y, run_underlying ht]
    · rw [q]; exact Ext.refl _ _ _
    · rw [q]; exact U
   | succ m =>
    have a4 : 0 < M := by omega
    obtain ⟨a5, _⟩ := N a4
    obtain ⟨ab, ao, b1⟩ := ad
    have O : (Builtin.zeroCells C.cells (m + 1)).toList = (List.replicate (m + 1) C.cells.toList).flatten := kf C.cells (m + 1) (by omega)
    have T : RvL w (aJ out π H) π (eU ((C.cells.toList.map .at).map wkN) (m + 1)) ((List.replicate (m + 1) C.cells.toList).flatten) := vq _ _
    have a6 := RvL.length _ _ T
    have a7 : (eU ((C.cells.toList.map .at).map wkN) (m + 1)).length = (m + 1) * es := by rw [<- a6, <- O, Array.length_toList, size_zeroCells, a3]
    obtain ⟨w', r1, r2, r3⟩ := nE (P := P) hp (eU ((C.cells.toList.map .at).map wkN) (m + 1)) ((List.replicate (m + 1) C.cells.toList).flatten) 0 off cs w H U J T (jB (all_zero E) _) (by omega)
    have hu : aM H [(i, .own (setCells cs off (eU ((C.cells.toList.map .at).map wkN) (m + 1))))] = H.set i (.own (setCells cs off (eU ((C.cells.toList.map .at).map wkN) (m + 1)))) := by simp [aM, upd, aT J]
    rw [Nat.add_zero] at r2 r3
    refine ⟨.value (.tuple #[]), .tuple #[], w', π, ?_, .inl rfl, by rw [hu]; exact r2, by rw [hu]; exact r3, rfl, fun _ _ => rfl⟩
    rw [a5]
    rw [<- O] at r1
    simp [Builtin.clear_, Y, run_underlying ht, I, r1]
theorem yj (j : rB P) {f : FuncId} (h : vG P f = true) (args : Array Value) (w : World) : (callFunc f args).run P w = .ok (.enter f args) w := by
 unfold vG at h
 split at h
 · rename_i fn m
   have q := j f fn m
   have hb : ¬ fn.body = none := by intro e; simp [e] at h
   simp [callFunc, m, q, hb]
 · cases h
theorem wz (hI : Inv out B w π H) {nid : Nat} (D : nid <= H.length) (U : ∀ q, π[nid]? ≠ some (some q)) {b : Builtin} {at_ : Array TypeId} {ty : TypeId} {consts : Array Bool} {args : List AV} {vs : List Value} {r : bs} (J : RvL w (aJ out π H) π args vs) (h : lC P H nid b at_ ty args = some r) :
  cn P out B w π H (builtin b at_ ty consts vs.toArray) r := by
 unfold lC at h
 split at h
 · rename_i x
   obtain ⟨v, M, rfl, hx, rfl⟩ := J
   split at h
   · rename_i t E
     refine iy h fun A I => ?_
     have : ∃ u, (Builtin.len_ at_ ty #[v]).run P w = .ok u w /\ Rv w (aJ out π H) π A u := by
      unfold Hd at I
      split at I
      · rename_i e nl cs len hu
        cases I
        rcases hx with ⟨_, rfl, _, rfl⟩ | ⟨b, o, cap, rfl, _⟩ | ⟨rfl, _, a, cap, rfl⟩
        rotate_left 2
        · exact ⟨.int .i64 0, by simp [Builtin.len_, E, run_underlying hu, goInt], rfl⟩
        · exact ⟨.int .i64 0, by simp [Builtin.len_, E, run_underlying hu, goInt], rfl⟩
        · exact ⟨.int .i64 len, by simp [Builtin.len_, E, run_underlying hu, goInt], rfl⟩
      · rename_i e b off len es hu
        cases I
        rcases hx with ⟨rfl, rfl⟩ | ⟨p, a, cap, _, rfl, _⟩
        · exact ⟨.int .i64 0, by simp [Builtin.len_, E, run_underlying hu, goInt], rfl⟩
        · exact ⟨.int .i64 len, by simp [Builtin.len_, E, run_underlying hu, goInt], rfl⟩
      · rename_i e hu
        cases I; cases hx
        exact ⟨.int .i64 0, by simp [Builtin.len_, E, run_underlying hu, goInt], rfl⟩
      · rename_i s hu
        cases I; cases hx
        exact ⟨.int .i64 s.size, by simp [Builtin.len_, E, run_underlying hu, goInt], rfl⟩
      · rename_i y n e hu
        cases I
        exact ⟨.int .i64 n, by simp [Builtin.len_, E, run_underlying hu, goInt], rfl⟩
      · cases I
     obtain ⟨u, h1, h2⟩ := this
     exact cn.value h1 h2
   · cases h
 · rename_i s x
   obtain ⟨v, M, rfl, hs, u, Y, rfl, hx, rfl⟩ := J
   split at h
   · rename_i t t' h1 h2
     split at h
     · rename_i e e' hu N
       split at h
       · rename_i n by_ z O hb hz
         split at h
         · rename_i a0
           have := yo hI D U (ty := ty) hu N O hb hz (by simpa using a0) hs hx h
           have e1 : (Builtin.append_ at_ ty #[v, u]).run P = (Builtin.append_ #[t, t'] ty #[v, u]).run P := by
            funext w
            simp only [Builtin.append_, h1, h2]
            rfl
           have e2 : (do pure (Next.value (<- Builtin.append_ at_ ty #[v, u])) : Sem Next).run P = (do pure (Next.value (<- Builtin.append_ #[t, t'] ty #[v, u])) : Sem Next).run P := by
            funext w; simp only [Sem.run_bind, e1]
           cases r with
           | pure A => obtain ⟨T, y, j, m⟩ := this; exact ⟨T, y, by rw [<- e2] at j; exact j, m⟩
           | eff A H' => obtain ⟨T, y, w', π', j, m⟩ := this; exact ⟨T, y, w', π', by rw [<- e2] at j; exact j, m⟩
           | call f as => obtain ⟨y, j, m⟩ := this; exact ⟨y, by rw [<- e2] at j; exact j, m⟩
         · cases h
       · cases h
     · rename_i e kk hu N
       split at h
       · rename_i n by_ z O hb hz
         have := wX hI D U (ty := ty) hu N O hb hz hs hx h
         have e1 : (Builtin.append_ at_ ty #[v, u]).run P = (Builtin.append_ #[t, t'] ty #[v, u]).run P := by
          funext w
          simp only [Builtin.append_, h1, h2]
          rfl
         have e2 : (do pure (Next.value (<- Builtin.append_ at_ ty #[v, u])) : Sem Next).run P = (do pure (Next.value (<- Builtin.append_ #[t, t'] ty #[v, u])) : Sem Next).run P := by
          funext w; simp only [Sem.run_bind, e1]
         cases r with
         | pure A => obtain ⟨T, y, j, m⟩ := this; exact ⟨T, y, by rw [<- e2] at j; exact j, m⟩
         | eff A H' => obtain ⟨T, y, w', π', j, m⟩ := this; exact ⟨T, y, w', π', by rw [<- e2] at j; exact j, m⟩
         | call f as => obtain ⟨y, j, m⟩ := this; exact ⟨y, by rw [<- e2] at j; exact j, m⟩
       · cases h
     · cases h
   · cases h
 · rename_i d x
   obtain ⟨v, M, rfl, hs, u, Y, rfl, hx, rfl⟩ := J
   split at h
   · rename_i t h1
     split at h
     · rename_i e hu
       split at h
       · rename_i n O
         exact A7 hI h1 hu O hs hx h
       · cases h
     · cases h
   · cases h
 · rename_i d
   obtain ⟨v, M, rfl, hs, rfl⟩ := J
   split at h
   · rename_i t h1
     split at h
     · rename_i e hu
       split at h
       · rename_i n z O hz
         exact zP hI h1 hu O hz hs h
       · cases h
     · cases h
   · cases h
 · split at h
   · rename_i us C
     have := mP args vs us J C
     subst this
     split at h
     · rename_i y hy
       cases h
       exact cn.value (fy hy w) rfl
     · cases h
   · cases h
 · split at h
   · rename_i us C
     have := mP args vs us J C
     subst this
     split at h
     · rename_i y hy
       cases h
       exact cn.value (fy hy w) rfl
     · cases h
   · cases h
 · split at h
   · rename_i us C
     have := mP args vs us J C
     subst this
     split at h
     · rename_i y hy
       cases h
       exact cn.value (fy hy w) rfl
     · cases h
   · cases h
 · cases h
theorem jj (a1 : rB P) (D : Inv out B w π H) {nid : Nat} (j : nid <= H.length) (E : ∀ q, π[nid]? ≠ some (some q)) {ρ : Operand -> AV} {ρc : Operand -> Value} (hρ : ∀ x, Rv w (aJ out π H) π (ρ x) (ρc x)) {o : Oper} {r : bs} (h : evalOp P ρ H nid o = some r) :
  cn P out B w π H (execOp ρc o) r := by
 unfold evalOp at h
 unfold execOp
 cases a2 : o.op <;> simp only [a2, vO, qJ, xh, sC, jf, tb, nk, og, jM, sB, tp, lE] at h ⊢
 case move x => cases h; exact ⟨_, _, rfl, .inl rfl, hρ x⟩
 case «assign» x => cases h; exact ⟨_, _, rfl, .inl rfl, hρ x⟩
 case pick c a b =>
  split at h
  · rename_i t hc
    cases h
    have a3 : ρc c = .bool t := by have := hρ c; rw [hc] at this; exact this
    refine ⟨_, if t then ρc a else ρc b, ?_, .inl rfl, A4 (hρ a) (hρ b)⟩
    simp [a3, asBool]
  · cases h
 case alloc t =>
  split at h
  · rename_i z I
    split at h
    · rename_i h1; cases h; exact zG D j E I h1
    · cases h
  · cases h
 case box t x =>
  split at h
  · rename_i h1; cases h; exact C2 D j E (hρ x) h1
  · cases h
 case build t parts =>
  split at h
  · rename_i z fs I hu
    split at h
    · rename_i pl a4
      split at h
      · rename_i h1
        split at h
        · rename_i cs J
          cases h
          obtain ⟨u, r1, r2⟩ := rF (w := w) (π := π) hρ hu I a4 h1 J
          exact cn.value r1 r2
        · cases h
      · cases h
    · cases h
  · rename_i z len e I hu
    split at h
    · rename_i n hn
      split at h
      · rename_i h1
        split at h
        · rename_i cs J
          cases h
          obtain ⟨u, r1, r2⟩ := sU (w := w) (π := π) hρ hu I hn h1 J
          exact cn.value r1 r2
        · cases h
      · cases h
    · cases h
  · cases h
 case buildSlice t len parts =>
  split at h
  · rename_i e hu
    split at h
    · rename_i n z hn I
      split at h
      · rename_i hc
        simp only [Bool.and_eq_true, decide_eq_true_eq] at hc
        split at h
        · rename_i cs J
          cases h
          exact tC D j E hρ hu hn I hc.1.1 hc.1.2 hc.2 J
        · cases h
      · cases h
    · cases h
  · cases h
 case load t a =>
  refine iy h fun A C => ?_
  obtain ⟨u, r1, r2⟩ := uH D (hρ a) C
  exact cn.value r1 r2
 case store t a x =>
  split at h
  · rename_i H' a5
    cases h
    obtain ⟨w', r1, r2, r3⟩ := x5 D (hρ a) (hρ x) a5
    exact ⟨.skip, undef, w', π, by simp [r1], .inr ⟨rfl, rfl⟩, r2, r3, trivial, fun _ _ => rfl⟩
  · cases h
 case nilCheck x =>
  have hx := hρ x
  split at h
  · rename_i b off hb
    cases h
    rw [hb] at hx
    have M := hx
    obtain ⟨p, _, hp⟩ := hx
    refine ⟨_, ρc x, ?_, .inl rfl, M⟩
    rw [hp]; rfl
  · rename_i cs off hb
    cases h
    rw [hb] at hx
    have M := hx
    obtain ⟨b, o, hp, _⟩ := hx
    refine ⟨_, ρc x, ?_, .inl rfl, M⟩
    rw [hp]; rfl
  · rename_i f a c hb
    cases h
    rw [hb] at hx
    have M := hx
    obtain ⟨fs, cs, hp, _⟩ := hx
    refine ⟨_, ρc x, ?_, .inl rfl, M⟩
    rw [hp]; rfl
  · cases h
 case binOp op t x y yt =>
  refine iy h fun A C => ?_
  obtain ⟨u, r1, r2⟩ := yH (P := P) (hρ x) (hρ y) C
  exact cn.value r1 r2
 case unOp op t x => exact vB (hρ x) (fun a b e hb => by subst e; exact fy hb w) h
 case convert s d x =>
  split at h
  · rename_i v hv
    cases h
    exact cn.value (zu (P := P) (w := w) (hρ x) hv) rfl
  · exact vB (hρ x) (fun a b e hb => by subst e; exact fy hb w) h
 case makeFunc fn fs cs =>
  cases fn <;> simp only at h
  case func f =>
   cases h
   refine cn.value (v := .func (.func f) (fs.map ρc) (cs.map ρc)) rfl ⟨fs.map ρc, cs.map ρc, rfl, ?_, ?_⟩
   · rw [Array.toList_map]; exact sE hρ _
   · rw [Array.toList_map]; exact sE hρ _
  all_goals cases h
 case makeSlice t l c =>
  split at h
  · rename_i e kl il kc ic hu hl hc
    split at h
    · rename_i n by_ z hn hb I
      split at h
      · rename_i N
        simp only [Bool.and_eq_true, decide_eq_true_eq] at N
        obtain ⟨⟨⟨⟨⟨⟨T, U⟩, k3⟩, k4⟩, k5⟩, k6⟩, k7⟩ := N
        cases h
        have e1 := qd (hρ l) hl
        have e2 := qd (hρ c) hc
        rw [e1, e2]
        exact uQ D j E hu hn hb I T U k3 k4 k5 k6 k7
      · cases h
    · cases h
  · cases h
 case slice t x lo hi mx =>
  cases mx with
  | some m => simp only at h; cases h
  | none =>
   have ho : ∀ y : Option Operand, FZ w (aJ out π H) π (y.map ρ) (y.map ρc) := by
    intro y; cases y with
    | none => trivial
    | some y => exact hρ y
   simp only at h
   split at h
   · rename_i s hs
     have hx : ρc x = .string s := by have := hρ x; rw [hs] at this; exact this
     have opt : ∀ (y : Option Operand) (z : Option Value), (match y with | none => some none | some a => (toV (ρ a)).map some) = some z -> y.map ρc = z := by
      intro y z I
      cases y with
      | none => cases I; rfl
      | some a =>
       simp only at I
       cases ha : toV (ρ a) with
       | none => simp [ha] at I
       | some b => simp [ha] at I; subst I; simp [iA _ _ _ (hρ a) ha]
     split at h
     · rename_i l hh hl a6
       have e1 := opt lo l hl
       have e2 := opt hi hh a6
       split at h
       · rename_i r' a7
         cases h
         rw [hx]
         simp only [Option.map_none]
         rw [e1, e2]
         exact cn.value (fy a7 w) rfl
       · cases h
     · cases h
   · refine iy h fun A C => ?_
     obtain ⟨u, r1, r2⟩ := x8 D (hρ x) (ho lo) (ho hi) C
     exact cn.value r1 r2
 case fieldAddr s x f =>
  refine iy h fun A C => ?_
  obtain ⟨u, r1, r2⟩ := tZ (P := P) (w := w) (hρ x) C
  exact cn.value r1 r2
 case field s x f =>
  refine iy h fun A C => ?_
  obtain ⟨u, r1, r2⟩ := yJ (P := P) (w := w) (hρ x) C
  exact cn.value r1 r2
 case indexAddr t x Y =>
  refine iy h fun A C => ?_
  obtain ⟨u, r1, r2⟩ := tD (P := P) (w := w) (hρ x) (hρ Y) C
  exact cn.value r1 r2
 case index t x Y =>
  refine iy h fun A C => ?_
  obtain ⟨u, r1, r2⟩ := yA (P := P) (w := w) (hρ x) (hρ Y) C
  exact cn.value r1 r2
 case extract t Y =>
  split at h
  · rename_i vs a8
    refine iy h fun A C => ?_
    have ht := hρ t
    rw [a8] at ht
    obtain ⟨us, hu, hr⟩ := ht
    obtain ⟨u, r1, r2⟩ := RvL.get _ _ _ _ hr C
    rw [hu]
    exact cn.value (v := u) (by simp [Instr.extract, <- Array.getElem?_toList, r1]) r2
  · cases h
 case makeMap t r =>
  exact uO D j E (by cases r with | none => trivial | some y => exact hρ y) h
 case lookup t x Y ok =>
  refine iy h fun A C => ?_
  obtain ⟨u, r1, r2⟩ := wU D (hρ x) (hρ Y) C
  exact cn.value r1 r2
 case mapUpdate t m k x => exact qB D (hρ m) (hρ k) (hρ x) h
 case insert t m k x => exact qB D (hρ m) (hρ k) (hρ x) h
 case mapEntry t m k => exact wL D (hρ m) (hρ k) h
 case entryStore t m s x => exact rE D (hρ m) (hρ s) (hρ x) h
 case range t x => exact wV D j E (hρ x) h
 case entry it => exact sr D (hρ it) h
 case call c =>
  cases O : c.callee <;> simp only [O] at h
  case value f =>
   split at h
   · rename_i g fs cs hf
     split at h
     · rename_i hc
       cases h
       have a0 := hρ f
       rw [hf] at a0
       obtain ⟨a, b, e1, h1, h2⟩ := a0
       refine ⟨a ++ c.args.map ρc ++ b, ?_, ?_⟩
       · simp [resolve, O, e1, Deferred.ofValue, invoke, yj a1 hc]
       · simp only [Array.toList_append, Array.toList_map]
         exact RvL.append _ _ _ _ (RvL.append _ _ _ _ h1 (sE hρ _)) h2
     · cases h
   · cases h
  case builtin b =>
   have ea : (c.args.toList.map ρc).toArray = c.args.map ρc := by apply Array.ext'; simp
   have e : ∃ consts, ∀ w, (do let d <- resolve ρc c o.type; invoke d.target d.args : Sem Next).run P w = (builtin b c.argTypes o.type consts (c.args.toList.map ρc).toArray).run P w :=
    ⟨_, fun w => by rw [ea]; simp only [resolve, O, invoke, Sem.run_bind, Sem.run_pure, Result.andThen_ok]; rfl⟩
   obtain ⟨consts, e⟩ := e
   have := wz (consts := consts) D j E (sE hρ c.args.toList) h
   cases r with
   | pure A => obtain ⟨nx, y, T, U⟩ := this; exact ⟨nx, y, by rw [e]; exact T, U⟩
   | eff A H' => obtain ⟨nx, y, w', π', T, U⟩ := this; exact ⟨nx, y, w', π', by rw [e]; exact T, U⟩
   | call f as => obtain ⟨y, T, U⟩ := this; exact ⟨y, by rw [e]; exact T, U⟩
  case invoke => cases h
 all_goals cases h
end
end Go.Eng

