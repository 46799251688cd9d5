import Derived.Test.YtfclmnpffhbcpaaGreatEng14Plds
set_option linter.all false
namespace Go.Eng
open Go Go.RowKit
variable[Dr]
section
variable{P:Program}
structure Row where
 f:FuncId
 args:List AV
 r:AV
end
instance drF:Dr:=⟨false⟩
end Go.Eng


namespace Go.Eng
open Go Go.RowKit
variable[Dr]
abbrev qv:=X->List AV->List Blk->Prop
def EV(P:Program)(call:gi)(n:Nat)(c:Code)(s:List AV)(h:List Blk)(Q:qv):Prop:=∃x st',evalCode P call n c ⟨s,h⟩=some (x,st')/\Q x st'.slots st'.heap
def EVO(P:Program)(call:gi)(ops rest:List Oper)(s:List AV)(h:List Blk)(K:List AV->List Blk->Prop):Prop:=∃st',jj P call ops rest ⟨s,h⟩=some st'/\K st'.slots st'.heap
def EVT(P:Program)(call:gi)(ops rest:List Oper)(s:List AV)(h:List Blk)(K:List AV->List Blk->List Ent->Prop):Prop:=∃st' es,gO P call ops rest ⟨s,h⟩=some (st',es)/\K st'.slots st'.heap es
def EVK(r:Option wP)(dst:Option Tmp)(s:List AV)(h:List Blk)(K:List AV->List Blk->Prop):Prop:=
 match r with
 |some (.loc v ws _ n)=>K (iL s dst v) (bj (h++jw n) ws)
 |some (.whole v H)=>K (iL s dst v) H
 |none=>False
def EVP(call:gi)(r:Option ct)(dst:Option Tmp)(s:List AV)(h:List Blk)(K:List AV->List Blk->Prop):Prop:=
 match r with
 |some (.pure v)=>K (iL s dst v) h
 |some (.eff v ws)=>K (iL s dst v) (bj h ws)
 |some (.call f args)=>EVK (call f args h) dst s h K
 |none=>False
abbrev SH:=List AV->List Blk->Prop
def EVC(v:AV)(A B:SH)(s:List AV)(h:List Blk):Prop:=match v with|.at (.bool true)=>A s h|.at (.bool false)=>B s h|_=>False
def ED(P:Program)(call:gi)(n:Nat)(b:Code)(Q:qv):qv:=fun x s h=>match x with|.normal=>EV P call n b s h Q|x=>Q x s h
def ue(id:Nat)(Q:qv):qv:=fun x s h=>match x with|.exit i=>(match decide (i=id)with|true=>Q .normal s h|false=>Q (.exit i) s h)|x=>Q x s h
section
variable{P:Program}{call:gi}{n:Nat}
@[congr] theorem GO {c:Code} {s s':List AV} {h h':List Blk} {Q:qv} (e1:s=s') (e2:h=h'):EV P call n c s h Q=EV P call n c s' h' Q:=by rw[e1,e2]
@[congr] theorem Gu {ops rest:List Oper} {s s':List AV} {h h':List Blk} {K:List AV->List Blk->Prop} (e1:s=s') (e2:h=h'):EVO P call ops rest s h K=EVO P call ops rest s' h' K:=by rw[e1,e2]
@[congr] theorem Gx {ops rest:List Oper} {s s':List AV} {h h':List Blk} {K:List AV->List Blk->List Ent->Prop} (e1:s=s') (e2:h=h'):EVT P call ops rest s h K=EVT P call ops rest s' h' K:=by rw[e1,e2]
@[congr] theorem Gs {r r':Option ct} {dst:Option Tmp} {s s':List AV} {h h':List Blk} {K:List AV->List Blk->Prop} (e0:r=r') (e1:s=s') (e2:h=h'):EVP call r dst s h K=EVP call r' dst s' h' K:=by rw[e0,e1,e2]
@[congr] theorem Gw {r r':Option wP} {dst:Option Tmp} {s s':List AV} {h h':List Blk} {K:List AV->List Blk->Prop} (e0:r=r') (e1:s=s') (e2:h=h'):EVK r dst s h K=EVK r' dst s' h' K:=by rw[e0,e1,e2]
@[go_sem] theorem G5 {v:AV} {dst:Option Tmp} {s:List AV} {h:List Blk} {K:List AV->List Blk->Prop}:EVP call (some (.pure v)) dst s h K=K (iL s dst v) h:=rfl
@[go_sem] theorem Ha {v:AV} {ws:List (Nat×Blk)} {dst:Option Tmp} {s:List AV} {h:List Blk} {K:List AV->List Blk->Prop}:EVP call (some (.eff v ws)) dst s h K=K (iL s dst v) (bj h ws):=rfl
@[go_sem] theorem Dx {f:FuncId} {args:List AV} {dst:Option Tmp} {s:List AV} {h:List Blk} {K:List AV->List Blk->Prop}:EVP call (some (.call f args)) dst s h K=EVK (call f args h) dst s h K:=rfl
@[go_sem] theorem Hb {v:AV} {ws:List (Nat×Blk)} {rd:List Nat} {m:Nat} {dst:Option Tmp} {s:List AV} {h:List Blk} {K:List AV->List Blk->Prop}:EVK (some (.loc v ws rd m)) dst s h K=K (iL s dst v) (bj (h++jw m) ws):=rfl
@[go_sem] theorem Gr {v:AV} {H:List Blk} {dst:Option Tmp} {s:List AV} {h:List Blk} {K:List AV->List Blk->Prop}:EVK (some (.whole v H)) dst s h K=K (iL s dst v) H:=rfl
@[go_sem] theorem Hw {A B:SH} {s:List AV} {h:List Blk}:EVC (.at (.bool true)) A B s h=A s h:=rfl
@[go_sem] theorem Hu {A B:SH} {s:List AV} {h:List Blk}:EVC (.at (.bool false)) A B s h=B s h:=rfl
@[go_sem] theorem G7 {s:List AV} {h:List Blk} {Q:qv}:EV P call n .skip s h Q=Q .normal s h:=by
 apply propext;constructor
 ·rintro⟨x,st',e,hq⟩;simp only[evalCode,Option.some.injEq,Prod.mk.injEq]at e;obtain⟨rfl,rfl⟩:=e;exact hq
 ·intro hq;exact⟨_,_,rfl,hq⟩
@[go_sem] theorem GA {s:List AV} {h:List Blk} {i:Nat} {Q:qv}:EV P call n (.label i) s h Q=Q .normal s h:=by
 apply propext;constructor
 ·rintro⟨x,st',e,hq⟩;simp only[evalCode,Option.some.injEq,Prod.mk.injEq]at e;obtain⟨rfl,rfl⟩:=e;exact hq
 ·intro hq;exact⟨_,_,rfl,hq⟩
@[go_sem] theorem Hq {s:List AV} {h:List Blk} {Q:qv}:EV P call n .ret s h Q=Q .ret s h:=by
 apply propext;constructor
 ·rintro⟨x,st',e,hq⟩;simp only[evalCode,Option.some.injEq,Prod.mk.injEq]at e;obtain⟨rfl,rfl⟩:=e;exact hq
 ·intro hq;exact⟨_,_,rfl,hq⟩
@[go_sem] theorem Hc {s:List AV} {h:List Blk} {i:Nat} {Q:qv}:EV P call n (.exit i) s h Q=Q (.exit i) s h:=by
 apply propext;constructor
 ·rintro⟨x,st',e,hq⟩;simp only[evalCode,Option.some.injEq,Prod.mk.injEq]at e;obtain⟨rfl,rfl⟩:=e;exact hq
 ·intro hq;exact⟨_,_,rfl,hq⟩
@[go_sem] theorem FJ {b:Code} {Q:qv} {s:List AV} {h:List Blk}:ED P call n b Q .normal s h=EV P call n b s h Q:=rfl
@[go_sem] theorem Gt {b:Code} {Q:qv} {s:List AV} {h:List Blk} {i:Nat}:ED P call n b Q (.exit i) s h=Q (.exit i) s h:=rfl
@[go_sem] theorem G2 {b:Code} {Q:qv} {s:List AV} {h:List Blk}:ED P call n b Q .ret s h=Q .ret s h:=rfl
@[go_sem] theorem EB {id:Nat} {Q:qv} {s:List AV} {h:List Blk}:ue id Q .normal s h=Q .normal s h:=rfl
@[go_sem] theorem Gq {id:Nat} {Q:qv} {s:List AV} {h:List Blk}:ue id Q .ret s h=Q .ret s h:=rfl
@[go_sem] theorem FI {id i:Nat} {Q:qv} {s:List AV} {h:List Blk}:ue id Q (.exit i) s h=if i=id then Q .normal s h else Q (.exit i) s h:=by
 unfold ue;by_cases e:i=id<;>simp[e]
@[go_sem] theorem Hr {a b:Code} {x:AV} {s:List AV} {h:List Blk} {Q:qv}:EV P call n (.seq a b) (x::s) h Q=EV P call n a (x::s) h (ED P call n b Q):=by
 apply propext;unfold EV;simp only[evalCode];constructor
 ·rintro⟨y,st',e,hq⟩;split at e
  ·rename_i st'' e1;exact⟨_,_,e1,⟨y,st',e,hq⟩⟩
  ·rename_i hne;refine⟨y,st',e,?_⟩;cases y with
   |normal=>exact(hne _ e).elim
   |_=>exact hq
 ·rintro⟨y,st',e,hq⟩;rw[e];cases y with
  |normal=>exact hq
  |_=>exact⟨_,_,rfl,hq⟩
@[go_sem] theorem GS {id:Nat} {c:Code} {x:AV} {s:List AV} {h:List Blk} {Q:qv}:EV P call n (.block id c) (x::s) h Q=EV P call n c (x::s) h (ue id Q):=by
 apply propext;unfold EV;simp only[evalCode];constructor
 ·rintro⟨y,st',e,hq⟩;split at e
  ·rename_i i st'' e1;refine⟨_,_,e1,?_⟩;unfold ue;split at e
   ·rename_i hd;simp only[hd];cases e;exact hq
   ·rename_i hd;simp only[hd];cases e;exact hq
  ·rename_i hne;refine⟨y,st',e,?_⟩;cases y with
   |exit i=>exact(hne _ _ e).elim
   |_=>exact hq
 ·rintro⟨y,st',e,hq⟩;rw[e];cases y with
  |exit i=>
   unfold ue at hq;dsimp only at hq ⊢;split at hq
   ·rename_i hd;simp only[hd];exact⟨_,_,rfl,hq⟩
   ·rename_i hd;simp only[hd];exact⟨_,_,rfl,hq⟩
  |_=>exact⟨_,_,rfl,hq⟩
@[go_sem] theorem G9 {c:Operand} {a b:Code} {x:AV} {s:List AV} {h:List Blk} {Q:qv}:EV P call n (.cond c a b) (x::s) h Q=EVC (evA (x::s) c) (fun s h=>EV P call n a s h Q) (fun s h=>EV P call n b s h Q) (x::s) h:=by
 apply propext;unfold EV EVC;simp only[evalCode];split
 ·rename_i e;rw[e]
 ·rename_i e;rw[e]
 ·simp_all
@[go_sem] theorem Gv {i:Nat} {ops:Array Oper} {x:AV} {s:List AV} {h:List Blk} {Q:qv}:EV P call n (.region i ops false) (x::s) h Q=EVO P call ops.toList ops.toList (x::s) h (fun s' h'=>Q .normal s' h'):=by
 apply propext;unfold EV EVO;simp only[evalCode,kX];constructor
 ·rintro⟨y,st',e,hq⟩;split at e
  ·rename_i st'' e1;cases e;exact⟨_,e1,hq⟩
  ·cases e
 ·rintro⟨st',e,hq⟩;rw[e];exact⟨_,_,rfl,hq⟩
def vY(ops:List Oper)(es:List Ent):Bool:=rl ops 0&&pL ops (uC [] ops) es es 0
@[go_sem] theorem Gm {i:Nat} {ops:Array Oper} {x:AV} {s:List AV} {h:List Blk} {Q:qv}:EV P call n (.region i ops true) (x::s) h Q=EVT P call ops.toList ops.toList (x::s) h (fun s' h' es=>vY ops.toList es=true/\Q .normal s' h'):=by
 apply propext;unfold EV EVT;simp only[evalCode,kX];constructor
 ·rintro⟨y,st',e,hq⟩;split at e
  ·rename_i st'' e1;split at e1
   ·rename_i st3 es e2;split at e1
    ·rename_i hd;cases e1;cases e;exact⟨_,_,e2,hd,hq⟩
    ·cases e1
   ·cases e1
  ·cases e
 ·rintro⟨st',es,e,hd,hq⟩;rw[e];unfold vY at hd;simp only[hd];exact⟨_,_,rfl,hq⟩
@[go_sem] theorem G8 {ops:List Oper} {s:List AV} {h:List Blk} {K:List AV->List Blk->Prop}:EVO P call ops [] s h K=K s h:=by
 apply propext;unfold EVO;simp only[jj];constructor
 ·rintro⟨st',e,hq⟩;cases e;exact hq
 ·intro hq;exact⟨_,rfl,hq⟩
theorem rC{ops:List Oper}{o:Oper}{s:List AV}{h:List Blk}(hw:ef ops o s=some true){K:St->Prop}:
  (∃st',(∃e,lO P call ops o ⟨s,h⟩=some (st',e))/\K st')↔EVP call (evalOp P (evA s) h h.length o) o.dst s h (fun j q=>K ⟨j,q⟩):=by
 unfold lO EVP;simp only[hw,fN];cases evalOp P (evA s) h h.length o with
 |none=>simp
 |some r=>
  cases r with
  |pure v=>simp only;constructor;(rintro⟨st',⟨e,he⟩,hk⟩;cases he;exact hk);(intro hk;exact⟨_,⟨_,rfl⟩,hk⟩)
  |eff v ws=>simp only;constructor;(rintro⟨st',⟨e,he⟩,hk⟩;cases he;exact hk);(intro hk;exact⟨_,⟨_,rfl⟩,hk⟩)
  |call f args=>
   simp only[EVK];cases call f args h with
   |none=>simp
   |some r=>
    cases r with
    |loc v ws rd n=>simp only;constructor;(rintro⟨st',⟨e,he⟩,hk⟩;cases he;exact hk);(intro hk;exact⟨_,⟨_,rfl⟩,hk⟩)
    |whole v H=>simp only;constructor;(rintro⟨st',⟨e,he⟩,hk⟩;cases he;exact hk);(intro hk;exact⟨_,⟨_,rfl⟩,hk⟩)
theorem Bb{ops:List Oper}{o:Oper}{s:List AV}{h:List Blk}(hw:ef ops o s=some false){K:St->Prop}:
  (∃st',(∃e,lO P call ops o ⟨s,h⟩=some (st',e))/\K st')↔K ⟨iL s o.dst (.at undef),h⟩:=by
 unfold lO;simp only[hw,fN];constructor
 ·rintro⟨st',⟨e,he⟩,hk⟩;cases he;exact hk
 ·intro hk;exact⟨_,⟨_,rfl⟩,hk⟩
theorem mV{ops:List Oper}{o:Oper}{rest:List Oper}{s:List AV}{h:List Blk}{K:List AV->List Blk->Prop}:
  EVO P call ops (o::rest) s h K↔∃st',(∃e,lO P call ops o ⟨s,h⟩=some (st',e))/\EVO P call ops rest st'.slots st'.heap K:=by
 unfold EVO;simp only[jj];constructor
 ·rintro⟨st',e,q⟩;split at e
  ·rename_i j z e1;exact⟨j,⟨z,e1⟩,st',e,q⟩
  ·cases e
 ·rintro⟨j,⟨z,e1⟩,st',e,q⟩;rw[e1];exact⟨st',e,q⟩
@[go_sem] theorem GU {ops:List Oper} {dst:Option Tmp} {op:Op} {ty:TypeId} {pos:String} {after:Array Edge} {rest:List Oper} {x:AV} {s:List AV} {h:List Blk} {K:List AV->List Blk->Prop}:
  EVO P call ops (⟨dst,op,ty,pos,after,none⟩::rest) (x::s) h K=EVP call (evalOp P (evA (x::s)) h h.length ⟨dst,op,ty,pos,after,none⟩) dst (x::s) h (fun s' h'=>EVO P call ops rest s' h' K):=
 propext (mV.trans (rC rfl (K:=fun st=>EVO P call ops rest st.slots st.heap K)))
end
end Go.Eng

