import Derived.Test.YtlpfiiejhikalaaGreatSc11Trks
import Derived.LoopN
set_option linter.all false
namespace Go.Eng
open Go Go.RowKit
variable [Dr]
section
variable {K : Nat} {P : Program}
mutual
def UNR (K : Nat) (P : Program) (c : Code) (k : List Fr) (F : X -> St -> Prop) : Nat -> St -> Prop
 | 0, _ => False
 | n + 1, st => CQ K P [.c c] (unF K P c k F n) .normal st
def unF (K : Nat) (P : Program) (c : Code) (k : List Fr) (F : X -> St -> Prop) (n : Nat) : X -> St -> Prop
 | .normal, st => UNR K P c k F n st
 | .exit j, st => CQ K P k F (.exit j) st
 | .ret, st => CQ K P k F .ret st
end
variable {c : Code} {k : List Fr} {F : X -> St -> Prop} {n : Nat} {st : St}
theorem UNR.one (h : CQ K P [.c c] (unF K P c k F n) .normal st) : UNR K P c k F (n + 1) st := by unfold UNR; exact h
theorem UNR.next (h : CQ K P [.c c] (unF K P c k F n) .normal st) : CQ K P [] (unF K P c k F (n + 1)) .normal st := by
 show unF K P c k F (n + 1) .normal st
 unfold unF; exact UNR.one h
theorem unF.exit {j : Nat} {k' : List Fr} (hu : unwind j k = some k') (h : CQ K P k' F .normal st) : unF K P c k F n (.exit j) st := by unfold unF; exact a8 k hu h
theorem unF.ret (h : F .ret st) : unF K P c k F n .ret st := by unfold unF; exact fp k h
theorem CQ.o7 (N : Nat) (h : UNR K P c k F N st) : CQ K P (.c (.loop c) :: k) F .normal st := by
 intro out B w Z act R hR hr
 refine wp_loop_rounds N ?_
 have key : ∀ (N : Nat) (st1 : St) (w1 : World) (Z1 : List (Option PB)) (act1 : Act), UNR K P c k F N st1 -> Rep out B w1 Z1 st1 act1 -> EK K B w w1 (aH out Z st.heap) (aH out Z1 st1.heap) Z Z1 -> Code.rounds P c R N act1 w1 := by
  intro N
  induction N with
  | zero => intro st1 w1 Z1 act1 h; unfold UNR at h; exact h.elim
  | succ N ih =>
   intro st1 w1 Z1 act1 h hR1 hE1
   unfold UNR at h
   rw [rounds_succ]
   refine h out B w1 Z1 act1 _ hR1 fun x st' a' w' Z' hq hR' hE' => ?_
   have hq : unF K P c k F N x st' := hq
   cases x with
   | normal => exact ih st' w' Z' a' (by unfold unF at hq; exact hq) hR' (hE1.trans hE')
   | exit i => exact hr (.exit i) st' a' w' Z' (by unfold unF at hq; exact hq) hR' (hE1.trans hE')
   | ret => exact hr .ret st' a' w' Z' (by unfold unF at hq; exact hq) hR' (hE1.trans hE')
 exact key N st w Z act h hR EK.id
end
end Go.Eng

