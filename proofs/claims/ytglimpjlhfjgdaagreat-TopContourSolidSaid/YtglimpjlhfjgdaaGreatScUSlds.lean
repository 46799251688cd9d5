import Derived.Test.YtglimpjlhfjgdaaGreatSc11Slds
import Derived.LoopN
set_option linter.all false
namespace Go.Eng
open Go Go.RowKit
variable[Dr]
section
variable{K:Nat}{P:Program}
mutual
def UNR(K:Nat)(P:Program)(c:Code)(k:List Fr)(F:X->St->Prop):Nat->St->Prop
 |0,_=>False
 |n+1,st=>CQ K P [.c c] (unF K P c k F n) .normal st
def unF(K:Nat)(P:Program)(c:Code)(k:List Fr)(F:X->St->Prop)(n:Nat):X->St->Prop
 |.normal,st=>UNR K P c k F n st
 |.exit j,st=>CQ K P k F (.exit j) st
 |.ret,st=>CQ K P k F .ret st
end
variable{c:Code}{k:List Fr}{F:X->St->Prop}{n:Nat}{st:St}
theorem UNR.one(h:CQ K P [.c c] (unF K P c k F n) .normal st):UNR K P c k F (n+1) st:=by unfold UNR;exact h
theorem UNR.next(h:CQ K P [.c c] (unF K P c k F n) .normal st):CQ K P [] (unF K P c k F (n+1)) .normal st:=by
 show unF K P c k F (n+1) .normal st;unfold unF;exact UNR.one h
theorem unF.exit{j:Nat}{k':List Fr}(hu:unwind j k=some k')(h:CQ K P k' F .normal st):unF K P c k F n (.exit j) st:=by unfold unF;exact aX k hu h
theorem unF.out{j:Nat}(hu:unwind j k=none)(h:F (.exit j) st):unF K P c k F n (.exit j) st:=by unfold unF;exact zE k hu h
theorem unF.ret(h:F .ret st):unF K P c k F n .ret st:=by unfold unF;exact fT k h
theorem CQ.qf(N:Nat)(h:UNR K P c k F N st):CQ K P (.c (.loop c)::k) F .normal st:=by
 intro out B w π act R E D;refine wp_loop_rounds N ?_;have key:∀(N:Nat) (st1:St) (w1:World) (π1:List (Option PB)) (j:Act),UNR K P c k F N st1->Rep out B w1 π1 st1 j->EK K B w w1 (aI out π st.heap) (aI out π1 st1.heap) π π1->Code.rounds P c R N j w1:=by
  intro N;induction N with
  |zero=>intro st1 w1 π1 j h;unfold UNR at h;exact h.elim
  |succ N I=>
   intro st1 w1 π1 j h C p;unfold UNR at h;rw[rounds_succ];refine h out B w1 π1 j _ C fun x st' a' w' π' m q z=>?_
   have m:unF K P c k F N x st':=m;cases x with
   |normal=>exact I st' w' π' a' (by unfold unF at m;exact m) q (p.trans z)
   |exit i=>exact D (.exit i) st' a' w' π' (by unfold unF at m;exact m) q (p.trans z)
   |ret=>exact D .ret st' a' w' π' (by unfold unF at m;exact m) q (p.trans z)
 exact key N st w π act h E EK.id
end
end Go.Eng

