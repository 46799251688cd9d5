import Derived.Test.YtglimpjlhfjgdaaGreatEng14Slds
set_option linter.all false
namespace Go.Eng
open Go Go.RowKit
variable[Dr]
section
variable{P:Program}
noncomputable def vL(P:Program)(call:dw)(n:Nat)(fn:Func)(args:List AV):Option AV:=
 match nZ P call n fn args []with
 |some (r,G)=>(match iO G (fun _=>true) n r with|some j=>(match kb j with|[]=>some j|_=>none)|none=>none)
 |none=>none
theorem xH(D:rQ P)(hm:P.follows .mixedOrders=true){call:dw}(q:fP P call){n:Nat}{f:FuncId}{fn:Func}(U:P.funcs[f]?=some fn){args:List AV}{r:AV}(h:vL P call n fn args=some r)
  (out:Nat->Prop) (w:World) (vs:List Value) (j:∀b,out b->b<w.heap.size) (Y:RvL w out [] args vs):
  Calls P f vs.toArray w fun e w'=>∃u,e=.returned u/\Ext (Lo w.heap.size) w w' out out [] []/\Rv w' out [] r u:=by
 unfold vL at h;split at h
 ·rename_i r0 G E;split at h
  ·rename_i r' I;split at h
   ·cases h;have J:Inv out (Lo w.heap.size) w [] []:=⟨rfl,fun _ h=>h,j,by simp,by simp,by simp⟩;refine(jX D hm q U E J (by rw[jt];exact Y)).mono ?_;rintro e w' ⟨u,π',rfl,m,T,k3⟩;rw[jt]at m;refine⟨u,rfl,⟨m.low,m.size,fun b M N=>⟨m.low b M,N⟩,by simp,m.os,m.tape,m.output,m.drawn⟩,?_⟩;have hL:Eu w' (aI out π' G) out π' G (fun _=>true):=by
     intro b p cs _ C hp;refine⟨eU T C hp,fun ho=>?_⟩;have z:∃y,G[b]?=some y/\y.isLive=true:=by rcases C with h|h<;>exact⟨_,h,rfl⟩
     obtain⟨y,hy,O⟩:=z;exact(T.base b y p hy hp O).1 (j _ ho)
    exact nq hL (fun b M=>.inl M) n r0 r u k3 I
   ·cases h
  ·cases h
 ·cases h
noncomputable def Br:Value->Value->Bool
 |.bool a,.bool b=>a==b
 |.int k a,.int l b=>IntKind.rk k l&&decide (a=b)
 |.string a,.string b=>decide (a=b)
 |.slice none 0 0,.slice none 0 0=>true
 |.pointer none,.pointer none=>true
 |.nilFunc,.nilFunc=>true
 |_,_=>false
theorem D5{a b:Value}(h:Br a b=true):a=b:=by
 unfold Br at h;split at h
 ·simp_all
 ·simp only[Bool.and_eq_true,decide_eq_true_eq]at h;rw[IntKind.ma h.1,h.2]
 ·simp_all
 ·rfl
 ·rfl
 ·rfl
 ·cases h
mutual
noncomputable def AVB:AV->AV->Bool
 |.at a,.at b=>Br a b
 |.sl nl cs len,.sl p cs' j=>nl==p&&decide (len=j)&&tC cs cs'
 |.agg cs,.agg cs'=>tC cs cs'
 |.fn f z cs,.fn C q cs'=>decide (f=C)&&tC z q&&tC cs cs'
 |.pp cs off,.pp cs' m=>decide (off=m)&&tC cs cs'
 |_,_=>false
noncomputable def tC:List AV->List AV->Bool
 |[],[]=>true
 |a::as,b::j=>AVB a b&&tC as j
 |_,_=>false
end
mutual
theorem Ja:(a b:AV)->AVB a b=true->a=b
 |.at a,y,h=>by cases y<;>simp only[AVB]at h<;>first|(cases h;done)|rw[D5 h]
 |.sl nl cs len,y,h=>by
  cases y<;>simp only[AVB]at h<;>first|(cases h;done)|skip;simp only[Bool.and_eq_true,decide_eq_true_eq,beq_iff_eq]at h;rw[h.1.1,h.1.2,kF _ _ h.2]
 |.agg cs,y,h=>by cases y<;>simp only[AVB]at h<;>first|(cases h;done)|rw[kF _ _ h]
 |.fn f j cs,y,h=>by
  cases y<;>simp only[AVB]at h<;>first|(cases h;done)|skip;simp only[Bool.and_eq_true,decide_eq_true_eq]at h;rw[h.1.1,kF _ _ h.1.2,kF _ _ h.2]
 |.pp cs off,y,h=>by
  cases y<;>simp only[AVB]at h<;>first|(cases h;done)|skip;simp only[Bool.and_eq_true,decide_eq_true_eq]at h;rw[h.1,kF _ _ h.2]
 |.unk,y,h=>by simp[AVB]at h
 |.hs ..,y,h=>by simp[AVB]at h
 |.hc ..,y,h=>by simp[AVB]at h
 |.hp ..,y,h=>by simp[AVB]at h
 |.mp _,y,h=>by simp[AVB]at h
 |.tup _,y,h=>by simp[AVB]at h
theorem kF:(a b:List AV)->tC a b=true->a=b
 |[],[],_=>rfl
 |[],_::_,h=>by simp[tC]at h
 |_::_,[],h=>by simp[tC]at h
 |a::as,b::j,h=>by
  simp only[tC,Bool.and_eq_true]at h;rw[Ja a b h.1,kF as j h.2]
end
structure Row where
 f:FuncId
 args:List AV
 r:AV
end
instance drF:Dr:=⟨false⟩
end Go.Eng


namespace Go.Eng
open Go Go.RowKit
variable[Dr]
abbrev nw:=X->List AV->List Blk->Prop
def EV(P:Program)(call:dw)(n:Nat)(c:Code)(s:List AV)(h:List Blk)(Q:nw):Prop:=∃x st',evalCode P call n c ⟨s,h⟩=some (x,st')/\Q x st'.slots st'.heap
def EVO(P:Program)(call:dw)(ops rest:List Oper)(s:List AV)(h:List Blk)(K:List AV->List Blk->Prop):Prop:=∃st',gj P call ops rest ⟨s,h⟩=some st'/\K st'.slots st'.heap
def EVT(P:Program)(call:dw)(ops rest:List Oper)(s:List AV)(h:List Blk)(K:List AV->List Blk->List Ent->Prop):Prop:=∃st' es,fi P call ops rest ⟨s,h⟩=some (st',es)/\K st'.slots st'.heap es
def EVK(r:Option uf)(dst:Option Tmp)(s:List AV)(h:List Blk)(K:List AV->List Blk->Prop):Prop:=
 match r with
 |some (.loc v ws _ n)=>K (fQ s dst v) (aN (h++gK n) ws)
 |some (.whole v H)=>K (fQ s dst v) H
 |none=>False
def EVP(call:dw)(r:Option bj)(dst:Option Tmp)(s:List AV)(h:List Blk)(K:List AV->List Blk->Prop):Prop:=
 match r with
 |some (.pure v)=>K (fQ s dst v) h
 |some (.eff v ws)=>K (fQ s dst v) (aN h ws)
 |some (.call f args)=>EVK (call f args h) dst s h K
 |none=>False
abbrev SH:=List AV->List Blk->Prop
def EVC(v:AV)(A B:SH)(s:List AV)(h:List Blk):Prop:=match v with|.at (.bool true)=>A s h|.at (.bool false)=>B s h|_=>False
def HS(P:Program)(call:dw)(n:Nat)(b:Code)(Q:nw):nw:=fun x s h=>match x with|.normal=>EV P call n b s h Q|x=>Q x s h
def sM(id:Nat)(Q:nw):nw:=fun x s h=>match x with|.exit i=>(match decide (i=id)with|true=>Q .normal s h|false=>Q (.exit i) s h)|x=>Q x s h
section
variable{P:Program}{call:dw}{n:Nat}
@[congr] theorem JU {c:Code} {s s':List AV} {h h':List Blk} {Q:nw} (e1:s=s') (e2:h=h'):EV P call n c s h Q=EV P call n c s' h' Q:=by rw[e1,e2]
@[congr] theorem JO {ops rest:List Oper} {s s':List AV} {h h':List Blk} {K:List AV->List Blk->Prop} (e1:s=s') (e2:h=h'):EVO P call ops rest s h K=EVO P call ops rest s' h' K:=by rw[e1,e2]
@[congr] theorem JP {ops rest:List Oper} {s s':List AV} {h h':List Blk} {K:List AV->List Blk->List Ent->Prop} (e1:s=s') (e2:h=h'):EVT P call ops rest s h K=EVT P call ops rest s' h' K:=by rw[e1,e2]
@[congr] theorem JK {r r':Option bj} {dst:Option Tmp} {s s':List AV} {h h':List Blk} {K:List AV->List Blk->Prop} (e0:r=r') (e1:s=s') (e2:h=h'):EVP call r dst s h K=EVP call r' dst s' h' K:=by rw[e0,e1,e2]
@[congr] theorem JL {r r':Option uf} {dst:Option Tmp} {s s':List AV} {h h':List Blk} {K:List AV->List Blk->Prop} (e0:r=r') (e1:s=s') (e2:h=h'):EVK r dst s h K=EVK r' dst s' h' K:=by rw[e0,e1,e2]
@[go_sem] theorem KU {v:AV} {dst:Option Tmp} {s:List AV} {h:List Blk} {K:List AV->List Blk->Prop}:EVP call (some (.pure v)) dst s h K=K (fQ s dst v) h:=rfl
@[go_sem] theorem K8 {v:AV} {ws:List (Nat×Blk)} {dst:Option Tmp} {s:List AV} {h:List Blk} {K:List AV->List Blk->Prop}:EVP call (some (.eff v ws)) dst s h K=K (fQ s dst v) (aN h ws):=rfl
@[go_sem] theorem EH {f:FuncId} {args:List AV} {dst:Option Tmp} {s:List AV} {h:List Blk} {K:List AV->List Blk->Prop}:EVP call (some (.call f args)) dst s h K=EVK (call f args h) dst s h K:=rfl
@[go_sem] theorem K9 {v:AV} {ws:List (Nat×Blk)} {rd:List Nat} {m:Nat} {dst:Option Tmp} {s:List AV} {h:List Blk} {K:List AV->List Blk->Prop}:EVK (some (.loc v ws rd m)) dst s h K=K (fQ s dst v) (aN (h++gK m) ws):=rfl
@[go_sem] theorem JM {v:AV} {H:List Blk} {dst:Option Tmp} {s:List AV} {h:List Blk} {K:List AV->List Blk->Prop}:EVK (some (.whole v H)) dst s h K=K (fQ s dst v) H:=rfl
@[go_sem] theorem MM {A B:SH} {s:List AV} {h:List Blk}:EVC (.at (.bool true)) A B s h=A s h:=rfl
@[go_sem] theorem MN {A B:SH} {s:List AV} {h:List Blk}:EVC (.at (.bool false)) A B s h=B s h:=rfl
@[go_sem] theorem K7 {s:List AV} {h:List Blk} {Q:nw}:EV P call n .skip s h Q=Q .normal s h:=by
 apply propext;constructor
 ·rintro⟨x,st',e,hq⟩;simp only[evalCode,Option.some.injEq,Prod.mk.injEq]at e;obtain⟨rfl,rfl⟩:=e;exact hq
 ·intro hq;exact⟨_,_,rfl,hq⟩
@[go_sem] theorem K4 {s:List AV} {h:List Blk} {i:Nat} {Q:nw}:EV P call n (.label i) s h Q=Q .normal s h:=by
 apply propext;constructor
 ·rintro⟨x,st',e,hq⟩;simp only[evalCode,Option.some.injEq,Prod.mk.injEq]at e;obtain⟨rfl,rfl⟩:=e;exact hq
 ·intro hq;exact⟨_,_,rfl,hq⟩
@[go_sem] theorem Lz {s:List AV} {h:List Blk} {Q:nw}:EV P call n .ret s h Q=Q .ret s h:=by
 apply propext;constructor
 ·rintro⟨x,st',e,hq⟩;simp only[evalCode,Option.some.injEq,Prod.mk.injEq]at e;obtain⟨rfl,rfl⟩:=e;exact hq
 ·intro hq;exact⟨_,_,rfl,hq⟩
@[go_sem] theorem Lb {s:List AV} {h:List Blk} {i:Nat} {Q:nw}:EV P call n (.exit i) s h Q=Q (.exit i) s h:=by
 apply propext;constructor
 ·rintro⟨x,st',e,hq⟩;simp only[evalCode,Option.some.injEq,Prod.mk.injEq]at e;obtain⟨rfl,rfl⟩:=e;exact hq
 ·intro hq;exact⟨_,_,rfl,hq⟩
@[go_sem] theorem Is {b:Code} {Q:nw} {s:List AV} {h:List Blk}:HS P call n b Q .normal s h=EV P call n b s h Q:=rfl
@[go_sem] theorem JN {b:Code} {Q:nw} {s:List AV} {h:List Blk} {i:Nat}:HS P call n b Q (.exit i) s h=Q (.exit i) s h:=rfl
@[go_sem] theorem Kz {b:Code} {Q:nw} {s:List AV} {h:List Blk}:HS P call n b Q .ret s h=Q .ret s h:=rfl
@[go_sem] theorem Gt {id:Nat} {Q:nw} {s:List AV} {h:List Blk}:sM id Q .normal s h=Q .normal s h:=rfl
@[go_sem] theorem IY {id:Nat} {Q:nw} {s:List AV} {h:List Blk}:sM id Q .ret s h=Q .ret s h:=rfl
@[go_sem] theorem Ie {id i:Nat} {Q:nw} {s:List AV} {h:List Blk}:sM id Q (.exit i) s h=if i=id then Q .normal s h else Q (.exit i) s h:=by
 unfold sM;by_cases e:i=id<;>simp[e]
@[go_sem] theorem MC {a b:Code} {x:AV} {s:List AV} {h:List Blk} {Q:nw}:EV P call n (.seq a b) (x::s) h Q=EV P call n a (x::s) h (HS P call n b Q):=by
 apply propext;unfold EV;simp only[evalCode];constructor
 ·rintro⟨y,st',e,hq⟩;split at e
  ·rename_i st'' e1;exact⟨_,_,e1,⟨y,st',e,hq⟩⟩
  ·rename_i hne;refine⟨y,st',e,?_⟩;cases y with
   |normal=>exact(hne _ e).elim
   |_=>exact hq
 ·rintro⟨y,st',e,hq⟩;rw[e];cases y with
  |normal=>exact hq
  |_=>exact⟨_,_,rfl,hq⟩
@[go_sem] theorem Km {id:Nat} {c:Code} {x:AV} {s:List AV} {h:List Blk} {Q:nw}:EV P call n (.block id c) (x::s) h Q=EV P call n c (x::s) h (sM id Q):=by
 apply propext;unfold EV;simp only[evalCode];constructor
 ·rintro⟨y,st',e,hq⟩;split at e
  ·rename_i i st'' e1;refine⟨_,_,e1,?_⟩;unfold sM;split at e
   ·rename_i hd;simp only[hd];cases e;exact hq
   ·rename_i hd;simp only[hd];cases e;exact hq
  ·rename_i hne;refine⟨y,st',e,?_⟩;cases y with
   |exit i=>exact(hne _ _ e).elim
   |_=>exact hq
 ·rintro⟨y,st',e,hq⟩;rw[e];cases y with
  |exit i=>
   unfold sM at hq;dsimp only at hq ⊢;split at hq
   ·rename_i hd;simp only[hd];exact⟨_,_,rfl,hq⟩
   ·rename_i hd;simp only[hd];exact⟨_,_,rfl,hq⟩
  |_=>exact⟨_,_,rfl,hq⟩
@[go_sem] theorem La {c:Operand} {a b:Code} {x:AV} {s:List AV} {h:List Blk} {Q:nw}:EV P call n (.cond c a b) (x::s) h Q=EVC (evA (x::s) c) (fun s h=>EV P call n a s h Q) (fun s h=>EV P call n b s h Q) (x::s) h:=by
 apply propext;unfold EV EVC;simp only[evalCode];split
 ·rename_i e;rw[e]
 ·rename_i e;rw[e]
 ·simp_all
@[go_sem] theorem JJ {i:Nat} {ops:Array Oper} {x:AV} {s:List AV} {h:List Blk} {Q:nw}:EV P call n (.region i ops false) (x::s) h Q=EVO P call ops.toList ops.toList (x::s) h (fun s' h'=>Q .normal s' h'):=by
 apply propext;unfold EV EVO;simp only[evalCode,iY];constructor
 ·rintro⟨y,st',e,hq⟩;split at e
  ·rename_i st'' e1;cases e;exact⟨_,e1,hq⟩
  ·cases e
 ·rintro⟨st',e,hq⟩;rw[e];exact⟨_,_,rfl,hq⟩
def uH(ops:List Oper)(es:List Ent):Bool:=ph ops 0&&nc ops (rU [] ops) es es 0
@[go_sem] theorem Jp {i:Nat} {ops:Array Oper} {x:AV} {s:List AV} {h:List Blk} {Q:nw}:EV P call n (.region i ops true) (x::s) h Q=EVT P call ops.toList ops.toList (x::s) h (fun s' h' es=>uH ops.toList es=true/\Q .normal s' h'):=by
 apply propext;unfold EV EVT;simp only[evalCode,iY];constructor
 ·rintro⟨y,st',e,hq⟩;split at e
  ·rename_i st'' e1;split at e1
   ·rename_i st3 es e2;split at e1
    ·rename_i hd;cases e1;cases e;exact⟨_,_,e2,hd,hq⟩
    ·cases e1
   ·cases e1
  ·cases e
 ·rintro⟨st',es,e,hd,hq⟩;rw[e];unfold uH at hd;simp only[hd];exact⟨_,_,rfl,hq⟩
@[go_sem] theorem Lc {ops:List Oper} {s:List AV} {h:List Blk} {K:List AV->List Blk->Prop}:EVO P call ops [] s h K=K s h:=by
 apply propext;unfold EVO;simp only[gj];constructor
 ·rintro⟨st',e,hq⟩;cases e;exact hq
 ·intro hq;exact⟨_,rfl,hq⟩
theorem oY{ops:List Oper}{o:Oper}{s:List AV}{h:List Blk}(hw:cH ops o s=some true){K:St->Prop}:
  (∃st',(∃e,ju P call ops o ⟨s,h⟩=some (st',e))/\K st')↔EVP call (evalOp P (evA s) h h.length o) o.dst s h (fun j m=>K ⟨j,m⟩):=by
 unfold ju EVP;simp only[hw,dS];cases evalOp P (evA s) h h.length o with
 |none=>simp
 |some r=>
  cases r with
  |pure v=>simp only;constructor;(rintro⟨st',⟨e,he⟩,hk⟩;cases he;exact hk);(intro hk;exact⟨_,⟨_,rfl⟩,hk⟩)
  |eff v ws=>simp only;constructor;(rintro⟨st',⟨e,he⟩,hk⟩;cases he;exact hk);(intro hk;exact⟨_,⟨_,rfl⟩,hk⟩)
  |call f args=>
   simp only[EVK];cases call f args h with
   |none=>simp
   |some r=>
    cases r with
    |loc v ws rd n=>simp only;constructor;(rintro⟨st',⟨e,he⟩,hk⟩;cases he;exact hk);(intro hk;exact⟨_,⟨_,rfl⟩,hk⟩)
    |whole v H=>simp only;constructor;(rintro⟨st',⟨e,he⟩,hk⟩;cases he;exact hk);(intro hk;exact⟨_,⟨_,rfl⟩,hk⟩)
theorem Ax{ops:List Oper}{o:Oper}{s:List AV}{h:List Blk}(hw:cH ops o s=some false){K:St->Prop}:
  (∃st',(∃e,ju P call ops o ⟨s,h⟩=some (st',e))/\K st')↔K ⟨fQ s o.dst (.at undef),h⟩:=by
 unfold ju;simp only[hw,dS];constructor
 ·rintro⟨st',⟨e,he⟩,hk⟩;cases he;exact hk
 ·intro hk;exact⟨_,⟨_,rfl⟩,hk⟩
theorem jW{ops:List Oper}{o:Oper}{rest:List Oper}{s:List AV}{h:List Blk}{K:List AV->List Blk->Prop}:
  EVO P call ops (o::rest) s h K↔∃st',(∃e,ju P call ops o ⟨s,h⟩=some (st',e))/\EVO P call ops rest st'.slots st'.heap K:=by
 unfold EVO;simp only[gj];constructor
 ·rintro⟨st',e,m⟩;split at e
  ·rename_i j p e1;exact⟨j,⟨p,e1⟩,st',e,m⟩
  ·cases e
 ·rintro⟨j,⟨p,e1⟩,st',e,m⟩;rw[e1];exact⟨st',e,m⟩
@[go_sem] theorem KO {ops:List Oper} {dst:Option Tmp} {op:Op} {ty:TypeId} {pos:String} {after:Array Edge} {rest:List Oper} {x:AV} {s:List AV} {h:List Blk} {K:List AV->List Blk->Prop}:
  EVO P call ops (⟨dst,op,ty,pos,after,none⟩::rest) (x::s) h K=EVP call (evalOp P (evA (x::s)) h h.length ⟨dst,op,ty,pos,after,none⟩) dst (x::s) h (fun s' h'=>EVO P call ops rest s' h' K):=
 propext (jW.trans (oY rfl (K:=fun st=>EVO P call ops rest st.slots st.heap K)))
end
end Go.Eng

