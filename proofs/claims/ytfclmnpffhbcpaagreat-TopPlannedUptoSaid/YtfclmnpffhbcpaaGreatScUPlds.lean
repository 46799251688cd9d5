import Derived.Test.YtfclmnpffhbcpaaGreatSc11Plds
import Derived.LoopN
set_option linter.all false
namespace Go.Eng
open Go Go.RowKit
variable[Dr]
section
variable{K:Nat}{P:Program}
mutual
def UNR(K:Nat)(P:Program)(c:Code)(k:List Fr)(F:X->St->Prop):Nat->St->Prop
 |0,_=>False
 |n+1,st=>CQ K P [.c c] (unF K P c k F n) .normal st
def unF(K:Nat)(P:Program)(c:Code)(k:List Fr)(F:X->St->Prop)(n:Nat):X->St->Prop
 |.normal,st=>UNR K P c k F n st
 |.exit j,st=>CQ K P k F (.exit j) st
 |.ret,st=>CQ K P k F .ret st
end
variable{c:Code}{k:List Fr}{F:X->St->Prop}{n:Nat}{st:St}
theorem UNR.one(h:CQ K P [.c c] (unF K P c k F n) .normal st):UNR K P c k F (n+1) st:=by unfold UNR;exact h
theorem UNR.next(h:CQ K P [.c c] (unF K P c k F n) .normal st):CQ K P [] (unF K P c k F (n+1)) .normal st:=by
 show unF K P c k F (n+1) .normal st;unfold unF;exact UNR.one h
theorem unF.exit{j:Nat}{k':List Fr}(hu:unwind j k=some k')(h:CQ K P k' F .normal st):unF K P c k F n (.exit j) st:=by unfold unF;exact bu k hu h
theorem unF.ret(h:F .ret st):unF K P c k F n .ret st:=by unfold unF;exact jM k h
theorem CQ.F6(N:Nat)(h:UNR K P c k F N st):CQ K P (.c (.loop c)::k) F .normal st:=by
 intro out B w π act R O J;refine wp_loop_rounds N ?_;have key:∀(N:Nat) (st1:St) (E:World) (π1:List (Option PB)) (j:Act),UNR K P c k F N st1->Rep out B E π1 st1 j->EK K B w E (aY out π st.heap) (aY out π1 st1.heap) π π1->Code.rounds P c R N j E:=by
  intro N;induction N with
  |zero=>intro st1 E π1 j h;unfold UNR at h;exact h.elim
  |succ N S=>
   intro st1 E π1 j h I z;unfold UNR at h;rw[rounds_succ];refine h out B E π1 j _ I fun x st' a' w' π' q C D=>?_
   have q:unF K P c k F N x st':=q;cases x with
   |normal=>exact S st' w' π' a' (by unfold unF at q;exact q) C (z.trans D)
   |exit i=>exact J (.exit i) st' a' w' π' (by unfold unF at q;exact q) C (z.trans D)
   |ret=>exact J .ret st' a' w' π' (by unfold unF at q;exact q) C (z.trans D)
 exact key N st w π act h O EK.id
end
end Go.Eng

