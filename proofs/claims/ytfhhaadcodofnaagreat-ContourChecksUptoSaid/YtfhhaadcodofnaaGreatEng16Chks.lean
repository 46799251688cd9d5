import Derived.Test.YtfhhaadcodofnaaGreatEng14Chks
set_option linter.all false
namespace Go.Eng
open Go Go.RowKit
variable[Dr]
section
variable{P:Program}
noncomputable def xz(P:Program)(call:eN)(n:Nat)(fn:Func)(args:List AV):Option AV:=
 match qc P call n fn args []with
 |some (r,G)=>(match kH G (fun _=>true) n r with|some j=>(match nI j with|[]=>some j|_=>none)|none=>none)
 |none=>none
theorem zn(D:ui P)(hm:P.follows .mixedOrders=true){call:eN}(q:iJ P call){n:Nat}{f:FuncId}{fn:Func}(U:P.funcs[f]?=some fn){args:List AV}{r:AV}(h:xz P call n fn args=some r)
  (out:Nat->Prop) (w:World) (vs:List Value) (j:∀b,out b->b<w.heap.size) (ha:RvL w out [] args vs):
  Calls P f vs.toArray w fun e w'=>∃u,e=.returned u/\Ext (Lo w.heap.size) w w' out out [] []/\Rv w' out [] r u:=by
 unfold xz at h;split at h
 ·rename_i r0 G E;split at h
  ·rename_i r' I;split at h
   ·cases h;have J:Inv out (Lo w.heap.size) w [] []:=⟨rfl,fun _ h=>h,j,by simp,by simp,by simp⟩;refine(mL D hm q U E J (by rw[lG];exact ha)).mono ?_;rintro e w' ⟨u,π',rfl,m,T,Y⟩;rw[lG]at m;refine⟨u,rfl,⟨m.low,m.size,fun b hb N=>⟨m.low b hb,N⟩,by simp,m.os,m.tape,m.output,m.drawn⟩,?_⟩;have hL:Eu w' (aL out π' G) out π' G (fun _=>true):=by
     intro b p cs _ C hp;refine⟨gb T C hp,fun ho=>?_⟩;have z:∃y,G[b]?=some y/\y.isLive=true:=by rcases C with h|h<;>exact⟨_,h,rfl⟩
     obtain⟨y,hy,O⟩:=z;exact(T.base b y p hy hp O).1 (j _ ho)
    exact pv hL (fun b hb=>.inl hb) n r0 r u Y I
   ·cases h
  ·cases h
 ·cases h
noncomputable def C0:Value->Value->Bool
 |.bool a,.bool b=>a==b
 |.int k a,.int l b=>IntKind.ux k l&&decide (a=b)
 |.string a,.string b=>decide (a=b)
 |.slice none 0 0,.slice none 0 0=>true
 |.pointer none,.pointer none=>true
 |.nilFunc,.nilFunc=>true
 |_,_=>false
theorem Eo{a b:Value}(h:C0 a b=true):a=b:=by
 unfold C0 at h;split at h
 ·simp_all
 ·simp only[Bool.and_eq_true,decide_eq_true_eq]at h;rw[IntKind.ot h.1,h.2]
 ·simp_all
 ·rfl
 ·rfl
 ·rfl
 ·cases h
mutual
noncomputable def AVB:AV->AV->Bool
 |.at a,.at b=>C0 a b
 |.sl nl cs len,.sl q cs' j=>nl==q&&decide (len=j)&&wE cs cs'
 |.agg cs,.agg cs'=>wE cs cs'
 |.fn f C cs,.fn D z cs'=>decide (f=D)&&wE C z&&wE cs cs'
 |.pp cs off,.pp cs' m=>decide (off=m)&&wE cs cs'
 |_,_=>false
noncomputable def wE:List AV->List AV->Bool
 |[],[]=>true
 |a::as,b::j=>AVB a b&&wE as j
 |_,_=>false
end
mutual
theorem Ib:(a b:AV)->AVB a b=true->a=b
 |.at a,y,h=>by cases y<;>simp only[AVB]at h<;>first|(cases h;done)|rw[Eo h]
 |.sl nl cs len,y,h=>by
  cases y<;>simp only[AVB]at h<;>first|(cases h;done)|skip;simp only[Bool.and_eq_true,decide_eq_true_eq,beq_iff_eq]at h;rw[h.1.1,h.1.2,ou _ _ h.2]
 |.agg cs,y,h=>by cases y<;>simp only[AVB]at h<;>first|(cases h;done)|rw[ou _ _ h]
 |.fn f j cs,y,h=>by
  cases y<;>simp only[AVB]at h<;>first|(cases h;done)|skip;simp only[Bool.and_eq_true,decide_eq_true_eq]at h;rw[h.1.1,ou _ _ h.1.2,ou _ _ h.2]
 |.pp cs off,y,h=>by
  cases y<;>simp only[AVB]at h<;>first|(cases h;done)|skip;simp only[Bool.and_eq_true,decide_eq_true_eq]at h;rw[h.1,ou _ _ h.2]
 |.unk,y,h=>by simp[AVB]at h
 |.hs ..,y,h=>by simp[AVB]at h
 |.hp ..,y,h=>by simp[AVB]at h
 |.mp _,y,h=>by simp[AVB]at h
 |.tup _,y,h=>by simp[AVB]at h
theorem ou:(a b:List AV)->wE a b=true->a=b
 |[],[],_=>rfl
 |[],_::_,h=>by simp[wE]at h
 |_::_,[],h=>by simp[wE]at h
 |a::as,b::j,h=>by
  simp only[wE,Bool.and_eq_true]at h;rw[Ib a b h.1,ou as j h.2]
end
structure Row where
 f:FuncId
 args:List AV
 r:AV
end
instance drF:Dr:=⟨false⟩
end Go.Eng


namespace Go.Eng
open Go Go.RowKit
variable[Dr]
abbrev pI:=X->List AV->List Blk->Prop
def EV(P:Program)(call:eN)(n:Nat)(c:Code)(s:List AV)(h:List Blk)(Q:pI):Prop:=∃x st',evalCode P call n c ⟨s,h⟩=some (x,st')/\Q x st'.slots st'.heap
def EVO(P:Program)(call:eN)(ops rest:List Oper)(s:List AV)(h:List Blk)(K:List AV->List Blk->Prop):Prop:=∃st',iT P call ops rest ⟨s,h⟩=some st'/\K st'.slots st'.heap
def EVT(P:Program)(call:eN)(ops rest:List Oper)(s:List AV)(h:List Blk)(K:List AV->List Blk->List Ent->Prop):Prop:=∃st' es,gU P call ops rest ⟨s,h⟩=some (st',es)/\K st'.slots st'.heap es
def EVK(r:Option vP)(dst:Option Tmp)(s:List AV)(h:List Blk)(K:List AV->List Blk->Prop):Prop:=
 match r with
 |some (.loc v ws _ n)=>K (iM s dst v) (aR (h++jz n) ws)
 |some (.whole v H)=>K (iM s dst v) H
 |none=>False
def EVP(call:eN)(r:Option bU)(dst:Option Tmp)(s:List AV)(h:List Blk)(K:List AV->List Blk->Prop):Prop:=
 match r with
 |some (.pure v)=>K (iM s dst v) h
 |some (.eff v ws)=>K (iM s dst v) (aR h ws)
 |some (.call f args)=>EVK (call f args h) dst s h K
 |none=>False
abbrev SH:=List AV->List Blk->Prop
def EVC(v:AV)(A B:SH)(s:List AV)(h:List Blk):Prop:=match v with|.at (.bool true)=>A s h|.at (.bool false)=>B s h|_=>False
def G7(P:Program)(call:eN)(n:Nat)(b:Code)(Q:pI):pI:=fun x s h=>match x with|.normal=>EV P call n b s h Q|x=>Q x s h
def uj(id:Nat)(Q:pI):pI:=fun x s h=>match x with|.exit i=>(match decide (i=id)with|true=>Q .normal s h|false=>Q (.exit i) s h)|x=>Q x s h
section
variable{P:Program}{call:eN}{n:Nat}
@[congr] theorem Jz {c:Code} {s s':List AV} {h h':List Blk} {Q:pI} (e1:s=s') (e2:h=h'):EV P call n c s h Q=EV P call n c s' h' Q:=by rw[e1,e2]
@[congr] theorem IZ {ops rest:List Oper} {s s':List AV} {h h':List Blk} {K:List AV->List Blk->Prop} (e1:s=s') (e2:h=h'):EVO P call ops rest s h K=EVO P call ops rest s' h' K:=by rw[e1,e2]
@[congr] theorem I0 {ops rest:List Oper} {s s':List AV} {h h':List Blk} {K:List AV->List Blk->List Ent->Prop} (e1:s=s') (e2:h=h'):EVT P call ops rest s h K=EVT P call ops rest s' h' K:=by rw[e1,e2]
@[congr] theorem I3 {r r':Option bU} {dst:Option Tmp} {s s':List AV} {h h':List Blk} {K:List AV->List Blk->Prop} (e0:r=r') (e1:s=s') (e2:h=h'):EVP call r dst s h K=EVP call r' dst s' h' K:=by rw[e0,e1,e2]
@[congr] theorem IY {r r':Option vP} {dst:Option Tmp} {s s':List AV} {h h':List Blk} {K:List AV->List Blk->Prop} (e0:r=r') (e1:s=s') (e2:h=h'):EVK r dst s h K=EVK r' dst s' h' K:=by rw[e0,e1,e2]
@[go_sem] theorem Jl {v:AV} {dst:Option Tmp} {s:List AV} {h:List Blk} {K:List AV->List Blk->Prop}:EVP call (some (.pure v)) dst s h K=K (iM s dst v) h:=rfl
@[go_sem] theorem JF {v:AV} {ws:List (Nat×Blk)} {dst:Option Tmp} {s:List AV} {h:List Blk} {K:List AV->List Blk->Prop}:EVP call (some (.eff v ws)) dst s h K=K (iM s dst v) (aR h ws):=rfl
@[go_sem] theorem EI {f:FuncId} {args:List AV} {dst:Option Tmp} {s:List AV} {h:List Blk} {K:List AV->List Blk->Prop}:EVP call (some (.call f args)) dst s h K=EVK (call f args h) dst s h K:=rfl
@[go_sem] theorem JE {v:AV} {ws:List (Nat×Blk)} {rd:List Nat} {m:Nat} {dst:Option Tmp} {s:List AV} {h:List Blk} {K:List AV->List Blk->Prop}:EVK (some (.loc v ws rd m)) dst s h K=K (iM s dst v) (aR (h++jz m) ws):=rfl
@[go_sem] theorem I1 {v:AV} {H:List Blk} {dst:Option Tmp} {s:List AV} {h:List Blk} {K:List AV->List Blk->Prop}:EVK (some (.whole v H)) dst s h K=K (iM s dst v) H:=rfl
@[go_sem] theorem J8 {A B:SH} {s:List AV} {h:List Blk}:EVC (.at (.bool true)) A B s h=A s h:=rfl
@[go_sem] theorem J4 {A B:SH} {s:List AV} {h:List Blk}:EVC (.at (.bool false)) A B s h=B s h:=rfl
@[go_sem] theorem JH {s:List AV} {h:List Blk} {Q:pI}:EV P call n .skip s h Q=Q .normal s h:=by
 apply propext;constructor
 ·rintro⟨x,st',e,hq⟩;simp only[evalCode,Option.some.injEq,Prod.mk.injEq]at e;obtain⟨rfl,rfl⟩:=e;exact hq
 ·intro hq;exact⟨_,_,rfl,hq⟩
@[go_sem] theorem Jq {s:List AV} {h:List Blk} {i:Nat} {Q:pI}:EV P call n (.label i) s h Q=Q .normal s h:=by
 apply propext;constructor
 ·rintro⟨x,st',e,hq⟩;simp only[evalCode,Option.some.injEq,Prod.mk.injEq]at e;obtain⟨rfl,rfl⟩:=e;exact hq
 ·intro hq;exact⟨_,_,rfl,hq⟩
@[go_sem] theorem JU {s:List AV} {h:List Blk} {Q:pI}:EV P call n .ret s h Q=Q .ret s h:=by
 apply propext;constructor
 ·rintro⟨x,st',e,hq⟩;simp only[evalCode,Option.some.injEq,Prod.mk.injEq]at e;obtain⟨rfl,rfl⟩:=e;exact hq
 ·intro hq;exact⟨_,_,rfl,hq⟩
@[go_sem] theorem JI {s:List AV} {h:List Blk} {i:Nat} {Q:pI}:EV P call n (.exit i) s h Q=Q (.exit i) s h:=by
 apply propext;constructor
 ·rintro⟨x,st',e,hq⟩;simp only[evalCode,Option.some.injEq,Prod.mk.injEq]at e;obtain⟨rfl,rfl⟩:=e;exact hq
 ·intro hq;exact⟨_,_,rfl,hq⟩
@[go_sem] theorem H3 {b:Code} {Q:pI} {s:List AV} {h:List Blk}:G7 P call n b Q .normal s h=EV P call n b s h Q:=rfl
@[go_sem] theorem IW {b:Code} {Q:pI} {s:List AV} {h:List Blk} {i:Nat}:G7 P call n b Q (.exit i) s h=Q (.exit i) s h:=rfl
@[go_sem] theorem Je {b:Code} {Q:pI} {s:List AV} {h:List Blk}:G7 P call n b Q .ret s h=Q .ret s h:=rfl
@[go_sem] theorem Gw {id:Nat} {Q:pI} {s:List AV} {h:List Blk}:uj id Q .normal s h=Q .normal s h:=rfl
@[go_sem] theorem IC {id:Nat} {Q:pI} {s:List AV} {h:List Blk}:uj id Q .ret s h=Q .ret s h:=rfl
@[go_sem] theorem HY {id i:Nat} {Q:pI} {s:List AV} {h:List Blk}:uj id Q (.exit i) s h=if i=id then Q .normal s h else Q (.exit i) s h:=by
 unfold uj;by_cases e:i=id<;>simp[e]
@[go_sem] theorem J1 {a b:Code} {x:AV} {s:List AV} {h:List Blk} {Q:pI}:EV P call n (.seq a b) (x::s) h Q=EV P call n a (x::s) h (G7 P call n b Q):=by
 apply propext;unfold EV;simp only[evalCode];constructor
 ·rintro⟨y,st',e,hq⟩;split at e
  ·rename_i st'' e1;exact⟨_,_,e1,⟨y,st',e,hq⟩⟩
  ·rename_i hne;refine⟨y,st',e,?_⟩;cases y with
   |normal=>exact(hne _ e).elim
   |_=>exact hq
 ·rintro⟨y,st',e,hq⟩;rw[e];cases y with
  |normal=>exact hq
  |_=>exact⟨_,_,rfl,hq⟩
@[go_sem] theorem Jt {id:Nat} {c:Code} {x:AV} {s:List AV} {h:List Blk} {Q:pI}:EV P call n (.block id c) (x::s) h Q=EV P call n c (x::s) h (uj id Q):=by
 apply propext;unfold EV;simp only[evalCode];constructor
 ·rintro⟨y,st',e,hq⟩;split at e
  ·rename_i i st'' e1;refine⟨_,_,e1,?_⟩;unfold uj;split at e
   ·rename_i hd;simp only[hd];cases e;exact hq
   ·rename_i hd;simp only[hd];cases e;exact hq
  ·rename_i hne;refine⟨y,st',e,?_⟩;cases y with
   |exit i=>exact(hne _ _ e).elim
   |_=>exact hq
 ·rintro⟨y,st',e,hq⟩;rw[e];cases y with
  |exit i=>
   unfold uj at hq;dsimp only at hq ⊢;split at hq
   ·rename_i hd;simp only[hd];exact⟨_,_,rfl,hq⟩
   ·rename_i hd;simp only[hd];exact⟨_,_,rfl,hq⟩
  |_=>exact⟨_,_,rfl,hq⟩
@[go_sem] theorem JD {c:Operand} {a b:Code} {x:AV} {s:List AV} {h:List Blk} {Q:pI}:EV P call n (.cond c a b) (x::s) h Q=EVC (evA (x::s) c) (fun s h=>EV P call n a s h Q) (fun s h=>EV P call n b s h Q) (x::s) h:=by
 apply propext;unfold EV EVC;simp only[evalCode];split
 ·rename_i e;rw[e]
 ·rename_i e;rw[e]
 ·simp_all
@[go_sem] theorem I2 {i:Nat} {ops:Array Oper} {x:AV} {s:List AV} {h:List Blk} {Q:pI}:EV P call n (.region i ops false) (x::s) h Q=EVO P call ops.toList ops.toList (x::s) h (fun s' h'=>Q .normal s' h'):=by
 apply propext;unfold EV EVO;simp only[evalCode,kJ];constructor
 ·rintro⟨y,st',e,hq⟩;split at e
  ·rename_i st'' e1;cases e;exact⟨_,e1,hq⟩
  ·cases e
 ·rintro⟨st',e,hq⟩;rw[e];exact⟨_,_,rfl,hq⟩
def wF(ops:List Oper)(es:List Ent):Bool:=rH ops 0&&pr ops (uI [] ops) es es 0
@[go_sem] theorem IK {i:Nat} {ops:Array Oper} {x:AV} {s:List AV} {h:List Blk} {Q:pI}:EV P call n (.region i ops true) (x::s) h Q=EVT P call ops.toList ops.toList (x::s) h (fun s' h' es=>wF ops.toList es=true/\Q .normal s' h'):=by
 apply propext;unfold EV EVT;simp only[evalCode,kJ];constructor
 ·rintro⟨y,st',e,hq⟩;split at e
  ·rename_i st'' e1;split at e1
   ·rename_i st3 es e2;split at e1
    ·rename_i hd;cases e1;cases e;exact⟨_,_,e2,hd,hq⟩
    ·cases e1
   ·cases e1
  ·cases e
 ·rintro⟨st',es,e,hd,hq⟩;rw[e];unfold wF at hd;simp only[hd];exact⟨_,_,rfl,hq⟩
@[go_sem] theorem JG {ops:List Oper} {s:List AV} {h:List Blk} {K:List AV->List Blk->Prop}:EVO P call ops [] s h K=K s h:=by
 apply propext;unfold EVO;simp only[iT];constructor
 ·rintro⟨st',e,hq⟩;cases e;exact hq
 ·intro hq;exact⟨_,rfl,hq⟩
theorem qW{ops:List Oper}{o:Oper}{s:List AV}{h:List Blk}(hw:dK ops o s=some true){K:St->Prop}:
  (∃st',(∃e,lL P call ops o ⟨s,h⟩=some (st',e))/\K st')↔EVP call (evalOp P (evA s) h h.length o) o.dst s h (fun j m=>K ⟨j,m⟩):=by
 unfold lL EVP;simp only[hw,ft];cases evalOp P (evA s) h h.length o with
 |none=>simp
 |some r=>
  cases r with
  |pure v=>simp only;constructor;(rintro⟨st',⟨e,he⟩,hk⟩;cases he;exact hk);(intro hk;exact⟨_,⟨_,rfl⟩,hk⟩)
  |eff v ws=>simp only;constructor;(rintro⟨st',⟨e,he⟩,hk⟩;cases he;exact hk);(intro hk;exact⟨_,⟨_,rfl⟩,hk⟩)
  |call f args=>
   simp only[EVK];cases call f args h with
   |none=>simp
   |some r=>
    cases r with
    |loc v ws rd n=>simp only;constructor;(rintro⟨st',⟨e,he⟩,hk⟩;cases he;exact hk);(intro hk;exact⟨_,⟨_,rfl⟩,hk⟩)
    |whole v H=>simp only;constructor;(rintro⟨st',⟨e,he⟩,hk⟩;cases he;exact hk);(intro hk;exact⟨_,⟨_,rfl⟩,hk⟩)
theorem Cg{ops:List Oper}{o:Oper}{s:List AV}{h:List Blk}(hw:dK ops o s=some false){K:St->Prop}:
  (∃st',(∃e,lL P call ops o ⟨s,h⟩=some (st',e))/\K st')↔K ⟨iM s o.dst (.at undef),h⟩:=by
 unfold lL;simp only[hw,ft];constructor
 ·rintro⟨st',⟨e,he⟩,hk⟩;cases he;exact hk
 ·intro hk;exact⟨_,⟨_,rfl⟩,hk⟩
theorem ml{ops:List Oper}{o:Oper}{rest:List Oper}{s:List AV}{h:List Blk}{K:List AV->List Blk->Prop}:
  EVO P call ops (o::rest) s h K↔∃st',(∃e,lL P call ops o ⟨s,h⟩=some (st',e))/\EVO P call ops rest st'.slots st'.heap K:=by
 unfold EVO;simp only[iT];constructor
 ·rintro⟨st',e,m⟩;split at e
  ·rename_i j q e1;exact⟨j,⟨q,e1⟩,st',e,m⟩
  ·cases e
 ·rintro⟨j,⟨q,e1⟩,st',e,m⟩;rw[e1];exact⟨st',e,m⟩
@[go_sem] theorem Jh {ops:List Oper} {dst:Option Tmp} {op:Op} {ty:TypeId} {pos:String} {after:Array Edge} {rest:List Oper} {x:AV} {s:List AV} {h:List Blk} {K:List AV->List Blk->Prop}:
  EVO P call ops (⟨dst,op,ty,pos,after,none⟩::rest) (x::s) h K=EVP call (evalOp P (evA (x::s)) h h.length ⟨dst,op,ty,pos,after,none⟩) dst (x::s) h (fun s' h'=>EVO P call ops rest s' h' K):=
 propext (ml.trans (qW rfl (K:=fun st=>EVO P call ops rest st.slots st.heap K)))
end
end Go.Eng

