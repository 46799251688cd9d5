import Derived.Test.YtglimpjlhfjgdaaGreatEng14Grds
set_option linter.all false
namespace Go.Eng
open Go Go.RowKit
variable[Dr]
section
variable{P:Program}
structure Row where
 f:FuncId
 args:List AV
 r:AV
end
instance drF:Dr:=⟨false⟩
end Go.Eng


namespace Go.Eng
open Go Go.RowKit
variable[Dr]
abbrev oZ:=X->List AV->List Blk->Prop
def EV(P:Program)(call:fG)(n:Nat)(c:Code)(s:List AV)(h:List Blk)(Q:oZ):Prop:=∃x st',evalCode P call n c ⟨s,h⟩=some (x,st')/\Q x st'.slots st'.heap
def EVO(P:Program)(call:fG)(ops rest:List Oper)(s:List AV)(h:List Blk)(K:List AV->List Blk->Prop):Prop:=∃st',ij P call ops rest ⟨s,h⟩=some st'/\K st'.slots st'.heap
def EVT(P:Program)(call:fG)(ops rest:List Oper)(s:List AV)(h:List Blk)(K:List AV->List Blk->List Ent->Prop):Prop:=∃st' es,gk P call ops rest ⟨s,h⟩=some (st',es)/\K st'.slots st'.heap es
def EVK(r:Option wJ)(dst:Option Tmp)(s:List AV)(h:List Blk)(K:List AV->List Blk->Prop):Prop:=
 match r with
 |some (.loc v ws _ n)=>K (gX s dst v) (aN (h++iT n) ws)
 |some (.whole v H)=>K (gX s dst v) H
 |none=>False
def EVP(call:fG)(r:Option bk)(dst:Option Tmp)(s:List AV)(h:List Blk)(K:List AV->List Blk->Prop):Prop:=
 match r with
 |some (.pure v)=>K (gX s dst v) h
 |some (.eff v ws)=>K (gX s dst v) (aN h ws)
 |some (.call f args)=>EVK (call f args h) dst s h K
 |none=>False
abbrev SH:=List AV->List Blk->Prop
def EVC(v:AV)(A B:SH)(s:List AV)(h:List Blk):Prop:=match v with|.at (.bool true)=>A s h|.at (.bool false)=>B s h|_=>False
def EN(P:Program)(call:fG)(n:Nat)(b:Code)(Q:oZ):oZ:=fun x s h=>match x with|.normal=>EV P call n b s h Q|x=>Q x s h
def sV(id:Nat)(Q:oZ):oZ:=fun x s h=>match x with|.exit i=>(match decide (i=id)with|true=>Q .normal s h|false=>Q (.exit i) s h)|x=>Q x s h
section
variable{P:Program}{call:fG}{n:Nat}
@[congr] theorem Hn {c:Code} {s s':List AV} {h h':List Blk} {Q:oZ} (e1:s=s') (e2:h=h'):EV P call n c s h Q=EV P call n c s' h' Q:=by rw[e1,e2]
@[congr] theorem GD {ops rest:List Oper} {s s':List AV} {h h':List Blk} {K:List AV->List Blk->Prop} (e1:s=s') (e2:h=h'):EVO P call ops rest s h K=EVO P call ops rest s' h' K:=by rw[e1,e2]
@[congr] theorem GF {ops rest:List Oper} {s s':List AV} {h h':List Blk} {K:List AV->List Blk->List Ent->Prop} (e1:s=s') (e2:h=h'):EVT P call ops rest s h K=EVT P call ops rest s' h' K:=by rw[e1,e2]
@[congr] theorem GA {r r':Option bk} {dst:Option Tmp} {s s':List AV} {h h':List Blk} {K:List AV->List Blk->Prop} (e0:r=r') (e1:s=s') (e2:h=h'):EVP call r dst s h K=EVP call r' dst s' h' K:=by rw[e0,e1,e2]
@[congr] theorem GG {r r':Option wJ} {dst:Option Tmp} {s s':List AV} {h h':List Blk} {K:List AV->List Blk->Prop} (e0:r=r') (e1:s=s') (e2:h=h'):EVK r dst s h K=EVK r' dst s' h' K:=by rw[e0,e1,e2]
@[go_sem] theorem GI {v:AV} {dst:Option Tmp} {s:List AV} {h:List Blk} {K:List AV->List Blk->Prop}:EVP call (some (.pure v)) dst s h K=K (gX s dst v) h:=rfl
@[go_sem] theorem HF {v:AV} {ws:List (Nat×Blk)} {dst:Option Tmp} {s:List AV} {h:List Blk} {K:List AV->List Blk->Prop}:EVP call (some (.eff v ws)) dst s h K=K (gX s dst v) (aN h ws):=rfl
@[go_sem] theorem Ds {f:FuncId} {args:List AV} {dst:Option Tmp} {s:List AV} {h:List Blk} {K:List AV->List Blk->Prop}:EVP call (some (.call f args)) dst s h K=EVK (call f args h) dst s h K:=rfl
@[go_sem] theorem HE {v:AV} {ws:List (Nat×Blk)} {rd:List Nat} {m:Nat} {dst:Option Tmp} {s:List AV} {h:List Blk} {K:List AV->List Blk->Prop}:EVK (some (.loc v ws rd m)) dst s h K=K (gX s dst v) (aN (h++iT m) ws):=rfl
@[go_sem] theorem Gz {v:AV} {H:List Blk} {dst:Option Tmp} {s:List AV} {h:List Blk} {K:List AV->List Blk->Prop}:EVK (some (.whole v H)) dst s h K=K (gX s dst v) H:=rfl
@[go_sem] theorem Jf {A B:SH} {s:List AV} {h:List Blk}:EVC (.at (.bool true)) A B s h=A s h:=rfl
@[go_sem] theorem Jl {A B:SH} {s:List AV} {h:List Blk}:EVC (.at (.bool false)) A B s h=B s h:=rfl
@[go_sem] theorem HD {s:List AV} {h:List Blk} {Q:oZ}:EV P call n .skip s h Q=Q .normal s h:=by
 apply propext;constructor
 ·rintro⟨x,st',e,hq⟩;simp only[evalCode,Option.some.injEq,Prod.mk.injEq]at e;obtain⟨rfl,rfl⟩:=e;exact hq
 ·intro hq;exact⟨_,_,rfl,hq⟩
@[go_sem] theorem Hs {s:List AV} {h:List Blk} {i:Nat} {Q:oZ}:EV P call n (.label i) s h Q=Q .normal s h:=by
 apply propext;constructor
 ·rintro⟨x,st',e,hq⟩;simp only[evalCode,Option.some.injEq,Prod.mk.injEq]at e;obtain⟨rfl,rfl⟩:=e;exact hq
 ·intro hq;exact⟨_,_,rfl,hq⟩
@[go_sem] theorem IT {s:List AV} {h:List Blk} {Q:oZ}:EV P call n .ret s h Q=Q .ret s h:=by
 apply propext;constructor
 ·rintro⟨x,st',e,hq⟩;simp only[evalCode,Option.some.injEq,Prod.mk.injEq]at e;obtain⟨rfl,rfl⟩:=e;exact hq
 ·intro hq;exact⟨_,_,rfl,hq⟩
@[go_sem] theorem HB {s:List AV} {h:List Blk} {i:Nat} {Q:oZ}:EV P call n (.exit i) s h Q=Q (.exit i) s h:=by
 apply propext;constructor
 ·rintro⟨x,st',e,hq⟩;simp only[evalCode,Option.some.injEq,Prod.mk.injEq]at e;obtain⟨rfl,rfl⟩:=e;exact hq
 ·intro hq;exact⟨_,_,rfl,hq⟩
@[go_sem] theorem Fe {b:Code} {Q:oZ} {s:List AV} {h:List Blk}:EN P call n b Q .normal s h=EV P call n b s h Q:=rfl
@[go_sem] theorem Gy {b:Code} {Q:oZ} {s:List AV} {h:List Blk} {i:Nat}:EN P call n b Q (.exit i) s h=Q (.exit i) s h:=rfl
@[go_sem] theorem GX {b:Code} {Q:oZ} {s:List AV} {h:List Blk}:EN P call n b Q .ret s h=Q .ret s h:=rfl
@[go_sem] theorem DZ {id:Nat} {Q:oZ} {s:List AV} {h:List Blk}:sV id Q .normal s h=Q .normal s h:=rfl
@[go_sem] theorem Gi {id:Nat} {Q:oZ} {s:List AV} {h:List Blk}:sV id Q .ret s h=Q .ret s h:=rfl
@[go_sem] theorem Fj {id i:Nat} {Q:oZ} {s:List AV} {h:List Blk}:sV id Q (.exit i) s h=if i=id then Q .normal s h else Q (.exit i) s h:=by
 unfold sV;by_cases e:i=id<;>simp[e]
@[go_sem] theorem Ja {a b:Code} {x:AV} {s:List AV} {h:List Blk} {Q:oZ}:EV P call n (.seq a b) (x::s) h Q=EV P call n a (x::s) h (EN P call n b Q):=by
 apply propext;unfold EV;simp only[evalCode];constructor
 ·rintro⟨y,st',e,hq⟩;split at e
  ·rename_i st'' e1;exact⟨_,_,e1,⟨y,st',e,hq⟩⟩
  ·rename_i hne;refine⟨y,st',e,?_⟩;cases y with
   |normal=>exact(hne _ e).elim
   |_=>exact hq
 ·rintro⟨y,st',e,hq⟩;rw[e];cases y with
  |normal=>exact hq
  |_=>exact⟨_,_,rfl,hq⟩
@[go_sem] theorem Ho {id:Nat} {c:Code} {x:AV} {s:List AV} {h:List Blk} {Q:oZ}:EV P call n (.block id c) (x::s) h Q=EV P call n c (x::s) h (sV id Q):=by
 apply propext;unfold EV;simp only[evalCode];constructor
 ·rintro⟨y,st',e,hq⟩;split at e
  ·rename_i i st'' e1;refine⟨_,_,e1,?_⟩;unfold sV;split at e
   ·rename_i hd;simp only[hd];cases e;exact hq
   ·rename_i hd;simp only[hd];cases e;exact hq
  ·rename_i hne;refine⟨y,st',e,?_⟩;cases y with
   |exit i=>exact(hne _ _ e).elim
   |_=>exact hq
 ·rintro⟨y,st',e,hq⟩;rw[e];cases y with
  |exit i=>
   unfold sV at hq;dsimp only at hq ⊢;split at hq
   ·rename_i hd;simp only[hd];exact⟨_,_,rfl,hq⟩
   ·rename_i hd;simp only[hd];exact⟨_,_,rfl,hq⟩
  |_=>exact⟨_,_,rfl,hq⟩
@[go_sem] theorem HA {c:Operand} {a b:Code} {x:AV} {s:List AV} {h:List Blk} {Q:oZ}:EV P call n (.cond c a b) (x::s) h Q=EVC (evA (x::s) c) (fun s h=>EV P call n a s h Q) (fun s h=>EV P call n b s h Q) (x::s) h:=by
 apply propext;unfold EV EVC;simp only[evalCode];split
 ·rename_i e;rw[e]
 ·rename_i e;rw[e]
 ·simp_all
@[go_sem] theorem GC {i:Nat} {ops:Array Oper} {x:AV} {s:List AV} {h:List Blk} {Q:oZ}:EV P call n (.region i ops false) (x::s) h Q=EVO P call ops.toList ops.toList (x::s) h (fun s' h'=>Q .normal s' h'):=by
 apply propext;unfold EV EVO;simp only[evalCode,jY];constructor
 ·rintro⟨y,st',e,hq⟩;split at e
  ·rename_i st'' e1;cases e;exact⟨_,e1,hq⟩
  ·cases e
 ·rintro⟨st',e,hq⟩;rw[e];exact⟨_,_,rfl,hq⟩
def u7(ops:List Oper)(es:List Ent):Bool:=qz ops 0&&oE ops (sU [] ops) es es 0
@[go_sem] theorem Gl {i:Nat} {ops:Array Oper} {x:AV} {s:List AV} {h:List Blk} {Q:oZ}:EV P call n (.region i ops true) (x::s) h Q=EVT P call ops.toList ops.toList (x::s) h (fun s' h' es=>u7 ops.toList es=true/\Q .normal s' h'):=by
 apply propext;unfold EV EVT;simp only[evalCode,jY];constructor
 ·rintro⟨y,st',e,hq⟩;split at e
  ·rename_i st'' e1;split at e1
   ·rename_i st3 es e2;split at e1
    ·rename_i hd;cases e1;cases e;exact⟨_,_,e2,hd,hq⟩
    ·cases e1
   ·cases e1
  ·cases e
 ·rintro⟨st',es,e,hd,hq⟩;rw[e];unfold u7 at hd;simp only[hd];exact⟨_,_,rfl,hq⟩
@[go_sem] theorem HC {ops:List Oper} {s:List AV} {h:List Blk} {K:List AV->List Blk->Prop}:EVO P call ops [] s h K=K s h:=by
 apply propext;unfold EVO;simp only[ij];constructor
 ·rintro⟨st',e,hq⟩;cases e;exact hq
 ·intro hq;exact⟨_,rfl,hq⟩
theorem qi{ops:List Oper}{o:Oper}{s:List AV}{h:List Blk}(hw:dk ops o s=some true){K:St->Prop}:
  (∃st',(∃e,kG P call ops o ⟨s,h⟩=some (st',e))/\K st')↔EVP call (evalOp P (evA s) h h.length o) o.dst s h (fun j m=>K ⟨j,m⟩):=by
 unfold kG EVP;simp only[hw,fg];cases evalOp P (evA s) h h.length o with
 |none=>simp
 |some r=>
  cases r with
  |pure v=>simp only;constructor;(rintro⟨st',⟨e,he⟩,hk⟩;cases he;exact hk);(intro hk;exact⟨_,⟨_,rfl⟩,hk⟩)
  |eff v ws=>simp only;constructor;(rintro⟨st',⟨e,he⟩,hk⟩;cases he;exact hk);(intro hk;exact⟨_,⟨_,rfl⟩,hk⟩)
  |call f args=>
   simp only[EVK];cases call f args h with
   |none=>simp
   |some r=>
    cases r with
    |loc v ws rd n=>simp only;constructor;(rintro⟨st',⟨e,he⟩,hk⟩;cases he;exact hk);(intro hk;exact⟨_,⟨_,rfl⟩,hk⟩)
    |whole v H=>simp only;constructor;(rintro⟨st',⟨e,he⟩,hk⟩;cases he;exact hk);(intro hk;exact⟨_,⟨_,rfl⟩,hk⟩)
theorem zQ{ops:List Oper}{o:Oper}{s:List AV}{h:List Blk}(hw:dk ops o s=some false){K:St->Prop}:
  (∃st',(∃e,kG P call ops o ⟨s,h⟩=some (st',e))/\K st')↔K ⟨gX s o.dst (.at undef),h⟩:=by
 unfold kG;simp only[hw,fg];constructor
 ·rintro⟨st',⟨e,he⟩,hk⟩;cases he;exact hk
 ·intro hk;exact⟨_,⟨_,rfl⟩,hk⟩
theorem lZ{ops:List Oper}{o:Oper}{rest:List Oper}{s:List AV}{h:List Blk}{K:List AV->List Blk->Prop}:
  EVO P call ops (o::rest) s h K↔∃st',(∃e,kG P call ops o ⟨s,h⟩=some (st',e))/\EVO P call ops rest st'.slots st'.heap K:=by
 unfold EVO;simp only[ij];constructor
 ·rintro⟨st',e,m⟩;split at e
  ·rename_i j p e1;exact⟨j,⟨p,e1⟩,st',e,m⟩
  ·cases e
 ·rintro⟨j,⟨p,e1⟩,st',e,m⟩;rw[e1];exact⟨st',e,m⟩
@[go_sem] theorem Hk {ops:List Oper} {dst:Option Tmp} {op:Op} {ty:TypeId} {pos:String} {after:Array Edge} {rest:List Oper} {x:AV} {s:List AV} {h:List Blk} {K:List AV->List Blk->Prop}:
  EVO P call ops (⟨dst,op,ty,pos,after,none⟩::rest) (x::s) h K=EVP call (evalOp P (evA (x::s)) h h.length ⟨dst,op,ty,pos,after,none⟩) dst (x::s) h (fun s' h'=>EVO P call ops rest s' h' K):=
 propext (lZ.trans (qi rfl (K:=fun st=>EVO P call ops rest st.slots st.heap K)))
end
end Go.Eng

