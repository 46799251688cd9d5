import Derived.Test.YtlhnaccgnegjdaaGreatEng14Ness
set_option linter.all false
namespace Go.Eng
open Go Go.RowKit
variable[Dr]
section
variable{P:Program}
noncomputable def wW(P:Program)(call:ef)(n:Nat)(fn:Func)(args:List AV):Option AV:=
 match qn P call n fn args []with
 |some (r,G)=>(match km G (fun _=>true) n r with|some j=>(match nv j with|[]=>some j|_=>none)|none=>none)
 |none=>none
theorem yI(D:tU P)(hm:P.follows .mixedOrders=true){call:ef}(q:gU P call){n:Nat}{f:FuncId}{fn:Func}(T:P.funcs[f]?=some fn){args:List AV}{r:AV}(h:wW P call n fn args=some r)
  (out:Nat->Prop) (w:World) (vs:List Value) (j:∀b,out b->b<w.heap.size) (ha:RvL w out [] args vs):
  Calls P f vs.toArray w fun e w'=>∃u,e=.returned u/\Ext (Lo w.heap.size) w w' out out [] []/\Rv w' out [] r u:=by
 unfold wW at h;split at h
 ·rename_i r0 G E;split at h
  ·rename_i r' I;split at h
   ·cases h;have J:Inv out (Lo w.heap.size) w [] []:=⟨rfl,fun _ h=>h,j,by simp,by simp,by simp⟩;refine(mc D hm q T E J (by rw[kF];exact ha)).mono ?_;rintro e w' ⟨u,π',rfl,m,O,U⟩;rw[kF]at m;refine⟨u,rfl,⟨m.low,m.size,fun b hb M=>⟨m.low b hb,M⟩,by simp,m.os,m.tape,m.output,m.drawn⟩,?_⟩;have Y:DG w' (aG out π' G) out π' G (fun _=>true):=by
     intro b p cs _ C hp;refine⟨fT O C hp,fun ho=>?_⟩;have z:∃y,G[b]?=some y/\y.isLive=true:=by rcases C with h|h<;>exact⟨_,h,rfl⟩
     obtain⟨y,hy,N⟩:=z;exact(O.base b y p hy hp N).1 (j _ ho)
    exact pC Y (fun b hb=>.inl hb) n r0 r u U I
   ·cases h
  ·cases h
 ·cases h
noncomputable def BX:Value->Value->Bool
 |.bool a,.bool b=>a==b
 |.int k a,.int l b=>IntKind.ua k l&&decide (a=b)
 |.string a,.string b=>decide (a=b)
 |.slice none 0 0,.slice none 0 0=>true
 |.pointer none,.pointer none=>true
 |.nilFunc,.nilFunc=>true
 |_,_=>false
theorem DP{a b:Value}(h:BX a b=true):a=b:=by
 unfold BX at h;split at h
 ·simp_all
 ·simp only[Bool.and_eq_true,decide_eq_true_eq]at h;rw[IntKind.oc h.1,h.2]
 ·simp_all
 ·rfl
 ·rfl
 ·rfl
 ·cases h
mutual
noncomputable def AVB:AV->AV->Bool
 |.at a,.at b=>BX a b
 |.sl nl cs len,.sl p cs' j=>nl==p&&decide (len=j)&&vA cs cs'
 |.agg cs,.agg cs'=>vA cs cs'
 |.fn f z cs,.fn C q cs'=>decide (f=C)&&vA z q&&vA cs cs'
 |.pp cs off,.pp cs' m=>decide (off=m)&&vA cs cs'
 |_,_=>false
noncomputable def vA:List AV->List AV->Bool
 |[],[]=>true
 |a::as,b::j=>AVB a b&&vA as j
 |_,_=>false
end
mutual
theorem HT:(a b:AV)->AVB a b=true->a=b
 |.at a,y,h=>by cases y<;>simp only[AVB]at h<;>first|(cases h;done)|rw[DP h]
 |.sl nl cs len,y,h=>by
  cases y<;>simp only[AVB]at h<;>first|(cases h;done)|skip;simp only[Bool.and_eq_true,decide_eq_true_eq,beq_iff_eq]at h;rw[h.1.1,h.1.2,oq _ _ h.2]
 |.agg cs,y,h=>by cases y<;>simp only[AVB]at h<;>first|(cases h;done)|rw[oq _ _ h]
 |.fn f j cs,y,h=>by
  cases y<;>simp only[AVB]at h<;>first|(cases h;done)|skip;simp only[Bool.and_eq_true,decide_eq_true_eq]at h;rw[h.1.1,oq _ _ h.1.2,oq _ _ h.2]
 |.pp cs off,y,h=>by
  cases y<;>simp only[AVB]at h<;>first|(cases h;done)|skip;simp only[Bool.and_eq_true,decide_eq_true_eq]at h;rw[h.1,oq _ _ h.2]
 |.unk,y,h=>by simp[AVB]at h
 |.hs ..,y,h=>by simp[AVB]at h
 |.hp ..,y,h=>by simp[AVB]at h
 |.mp _,y,h=>by simp[AVB]at h
 |.tup _,y,h=>by simp[AVB]at h
theorem oq:(a b:List AV)->vA a b=true->a=b
 |[],[],_=>rfl
 |[],_::_,h=>by simp[vA]at h
 |_::_,[],h=>by simp[vA]at h
 |a::as,b::j,h=>by
  simp only[vA,Bool.and_eq_true]at h;rw[HT a b h.1,oq as j h.2]
end
structure Row where
 f:FuncId
 args:List AV
 r:AV
end
instance drF:Dr:=⟨false⟩
end Go.Eng


namespace Go.Eng
open Go Go.RowKit
variable[Dr]
abbrev pH:=X->List AV->List Blk->Prop
def EV(P:Program)(call:ef)(n:Nat)(c:Code)(s:List AV)(h:List Blk)(Q:pH):Prop:=∃x st',evalCode P call n c ⟨s,h⟩=some (x,st')/\Q x st'.slots st'.heap
def EVO(P:Program)(call:ef)(ops rest:List Oper)(s:List AV)(h:List Blk)(K:List AV->List Blk->Prop):Prop:=∃st',iv P call ops rest ⟨s,h⟩=some st'/\K st'.slots st'.heap
def EVT(P:Program)(call:ef)(ops rest:List Oper)(s:List AV)(h:List Blk)(K:List AV->List Blk->List Ent->Prop):Prop:=∃st' es,gj P call ops rest ⟨s,h⟩=some (st',es)/\K st'.slots st'.heap es
def EVK(r:Option vh)(dst:Option Tmp)(s:List AV)(h:List Blk)(K:List AV->List Blk->Prop):Prop:=
 match r with
 |some (.loc v ws _ n)=>K (gX s dst v) (aQ (h++jd n) ws)
 |some (.whole v H)=>K (gX s dst v) H
 |none=>False
def EVP(call:ef)(r:Option bj)(dst:Option Tmp)(s:List AV)(h:List Blk)(K:List AV->List Blk->Prop):Prop:=
 match r with
 |some (.pure v)=>K (gX s dst v) h
 |some (.eff v ws)=>K (gX s dst v) (aQ h ws)
 |some (.call f args)=>EVK (call f args h) dst s h K
 |none=>False
abbrev SH:=List AV->List Blk->Prop
def EVC(v:AV)(A B:SH)(s:List AV)(h:List Blk):Prop:=match v with|.at (.bool true)=>A s h|.at (.bool false)=>B s h|_=>False
def F7(P:Program)(call:ef)(n:Nat)(b:Code)(Q:pH):pH:=fun x s h=>match x with|.normal=>EV P call n b s h Q|x=>Q x s h
def tD(id:Nat)(Q:pH):pH:=fun x s h=>match x with|.exit i=>(match decide (i=id)with|true=>Q .normal s h|false=>Q (.exit i) s h)|x=>Q x s h
section
variable{P:Program}{call:ef}{n:Nat}
@[congr] theorem IP {c:Code} {s s':List AV} {h h':List Blk} {Q:pH} (e1:s=s') (e2:h=h'):EV P call n c s h Q=EV P call n c s' h' Q:=by rw[e1,e2]
@[congr] theorem Ih {ops rest:List Oper} {s s':List AV} {h h':List Blk} {K:List AV->List Blk->Prop} (e1:s=s') (e2:h=h'):EVO P call ops rest s h K=EVO P call ops rest s' h' K:=by rw[e1,e2]
@[congr] theorem Ik {ops rest:List Oper} {s s':List AV} {h h':List Blk} {K:List AV->List Blk->List Ent->Prop} (e1:s=s') (e2:h=h'):EVT P call ops rest s h K=EVT P call ops rest s' h' K:=by rw[e1,e2]
@[congr] theorem Ij {r r':Option bj} {dst:Option Tmp} {s s':List AV} {h h':List Blk} {K:List AV->List Blk->Prop} (e0:r=r') (e1:s=s') (e2:h=h'):EVP call r dst s h K=EVP call r' dst s' h' K:=by rw[e0,e1,e2]
@[congr] theorem Ii {r r':Option vh} {dst:Option Tmp} {s s':List AV} {h h':List Blk} {K:List AV->List Blk->Prop} (e0:r=r') (e1:s=s') (e2:h=h'):EVK r dst s h K=EVK r' dst s' h' K:=by rw[e0,e1,e2]
@[go_sem] theorem Ir {v:AV} {dst:Option Tmp} {s:List AV} {h:List Blk} {K:List AV->List Blk->Prop}:EVP call (some (.pure v)) dst s h K=K (gX s dst v) h:=rfl
@[go_sem] theorem I2 {v:AV} {ws:List (Nat×Blk)} {dst:Option Tmp} {s:List AV} {h:List Blk} {K:List AV->List Blk->Prop}:EVP call (some (.eff v ws)) dst s h K=K (gX s dst v) (aQ h ws):=rfl
@[go_sem] theorem ET {f:FuncId} {args:List AV} {dst:Option Tmp} {s:List AV} {h:List Blk} {K:List AV->List Blk->Prop}:EVP call (some (.call f args)) dst s h K=EVK (call f args h) dst s h K:=rfl
@[go_sem] theorem I3 {v:AV} {ws:List (Nat×Blk)} {rd:List Nat} {m:Nat} {dst:Option Tmp} {s:List AV} {h:List Blk} {K:List AV->List Blk->Prop}:EVK (some (.loc v ws rd m)) dst s h K=K (gX s dst v) (aQ (h++jd m) ws):=rfl
@[go_sem] theorem Ig {v:AV} {H:List Blk} {dst:Option Tmp} {s:List AV} {h:List Blk} {K:List AV->List Blk->Prop}:EVK (some (.whole v H)) dst s h K=K (gX s dst v) H:=rfl
@[go_sem] theorem Jl {A B:SH} {s:List AV} {h:List Blk}:EVC (.at (.bool true)) A B s h=A s h:=rfl
@[go_sem] theorem Jp {A B:SH} {s:List AV} {h:List Blk}:EVC (.at (.bool false)) A B s h=B s h:=rfl
@[go_sem] theorem I1 {s:List AV} {h:List Blk} {Q:pH}:EV P call n .skip s h Q=Q .normal s h:=by
 apply propext;constructor
 ·rintro⟨x,st',e,hq⟩;simp only[evalCode,Option.some.injEq,Prod.mk.injEq]at e;obtain⟨rfl,rfl⟩:=e;exact hq
 ·intro hq;exact⟨_,_,rfl,hq⟩
@[go_sem] theorem I0 {s:List AV} {h:List Blk} {i:Nat} {Q:pH}:EV P call n (.label i) s h Q=Q .normal s h:=by
 apply propext;constructor
 ·rintro⟨x,st',e,hq⟩;simp only[evalCode,Option.some.injEq,Prod.mk.injEq]at e;obtain⟨rfl,rfl⟩:=e;exact hq
 ·intro hq;exact⟨_,_,rfl,hq⟩
@[go_sem] theorem Jf {s:List AV} {h:List Blk} {Q:pH}:EV P call n .ret s h Q=Q .ret s h:=by
 apply propext;constructor
 ·rintro⟨x,st',e,hq⟩;simp only[evalCode,Option.some.injEq,Prod.mk.injEq]at e;obtain⟨rfl,rfl⟩:=e;exact hq
 ·intro hq;exact⟨_,_,rfl,hq⟩
@[go_sem] theorem I6 {s:List AV} {h:List Blk} {i:Nat} {Q:pH}:EV P call n (.exit i) s h Q=Q (.exit i) s h:=by
 apply propext;constructor
 ·rintro⟨x,st',e,hq⟩;simp only[evalCode,Option.some.injEq,Prod.mk.injEq]at e;obtain⟨rfl,rfl⟩:=e;exact hq
 ·intro hq;exact⟨_,_,rfl,hq⟩
@[go_sem] theorem G3 {b:Code} {Q:pH} {s:List AV} {h:List Blk}:F7 P call n b Q .normal s h=EV P call n b s h Q:=rfl
@[go_sem] theorem Il {b:Code} {Q:pH} {s:List AV} {h:List Blk} {i:Nat}:F7 P call n b Q (.exit i) s h=Q (.exit i) s h:=rfl
@[go_sem] theorem Ip {b:Code} {Q:pH} {s:List AV} {h:List Blk}:F7 P call n b Q .ret s h=Q .ret s h:=rfl
@[go_sem] theorem FU {id:Nat} {Q:pH} {s:List AV} {h:List Blk}:tD id Q .normal s h=Q .normal s h:=rfl
@[go_sem] theorem H9 {id:Nat} {Q:pH} {s:List AV} {h:List Blk}:tD id Q .ret s h=Q .ret s h:=rfl
@[go_sem] theorem Hb {id i:Nat} {Q:pH} {s:List AV} {h:List Blk}:tD id Q (.exit i) s h=if i=id then Q .normal s h else Q (.exit i) s h:=by
 unfold tD;by_cases e:i=id<;>simp[e]
@[go_sem] theorem Jg {a b:Code} {x:AV} {s:List AV} {h:List Blk} {Q:pH}:EV P call n (.seq a b) (x::s) h Q=EV P call n a (x::s) h (F7 P call n b Q):=by
 apply propext;unfold EV;simp only[evalCode];constructor
 ·rintro⟨y,st',e,hq⟩;split at e
  ·rename_i st'' e1;exact⟨_,_,e1,⟨y,st',e,hq⟩⟩
  ·rename_i hne;refine⟨y,st',e,?_⟩;cases y with
   |normal=>exact(hne _ e).elim
   |_=>exact hq
 ·rintro⟨y,st',e,hq⟩;rw[e];cases y with
  |normal=>exact hq
  |_=>exact⟨_,_,rfl,hq⟩
@[go_sem] theorem IB {id:Nat} {c:Code} {x:AV} {s:List AV} {h:List Blk} {Q:pH}:EV P call n (.block id c) (x::s) h Q=EV P call n c (x::s) h (tD id Q):=by
 apply propext;unfold EV;simp only[evalCode];constructor
 ·rintro⟨y,st',e,hq⟩;split at e
  ·rename_i i st'' e1;refine⟨_,_,e1,?_⟩;unfold tD;split at e
   ·rename_i hd;simp only[hd];cases e;exact hq
   ·rename_i hd;simp only[hd];cases e;exact hq
  ·rename_i hne;refine⟨y,st',e,?_⟩;cases y with
   |exit i=>exact(hne _ _ e).elim
   |_=>exact hq
 ·rintro⟨y,st',e,hq⟩;rw[e];cases y with
  |exit i=>
   unfold tD at hq;dsimp only at hq ⊢;split at hq
   ·rename_i hd;simp only[hd];exact⟨_,_,rfl,hq⟩
   ·rename_i hd;simp only[hd];exact⟨_,_,rfl,hq⟩
  |_=>exact⟨_,_,rfl,hq⟩
@[go_sem] theorem I4 {c:Operand} {a b:Code} {x:AV} {s:List AV} {h:List Blk} {Q:pH}:EV P call n (.cond c a b) (x::s) h Q=EVC (evA (x::s) c) (fun s h=>EV P call n a s h Q) (fun s h=>EV P call n b s h Q) (x::s) h:=by
 apply propext;unfold EV EVC;simp only[evalCode];split
 ·rename_i e;rw[e]
 ·rename_i e;rw[e]
 ·simp_all
@[go_sem] theorem Ie {i:Nat} {ops:Array Oper} {x:AV} {s:List AV} {h:List Blk} {Q:pH}:EV P call n (.region i ops false) (x::s) h Q=EVO P call ops.toList ops.toList (x::s) h (fun s' h'=>Q .normal s' h'):=by
 apply propext;unfold EV EVO;simp only[evalCode,kg];constructor
 ·rintro⟨y,st',e,hq⟩;split at e
  ·rename_i st'' e1;cases e;exact⟨_,e1,hq⟩
  ·cases e
 ·rintro⟨st',e,hq⟩;rw[e];exact⟨_,_,rfl,hq⟩
def vZ(ops:List Oper)(es:List Ent):Bool:=qL ops 0&&pz ops (tW [] ops) es es 0
@[go_sem] theorem HM {i:Nat} {ops:Array Oper} {x:AV} {s:List AV} {h:List Blk} {Q:pH}:EV P call n (.region i ops true) (x::s) h Q=EVT P call ops.toList ops.toList (x::s) h (fun s' h' es=>vZ ops.toList es=true/\Q .normal s' h'):=by
 apply propext;unfold EV EVT;simp only[evalCode,kg];constructor
 ·rintro⟨y,st',e,hq⟩;split at e
  ·rename_i st'' e1;split at e1
   ·rename_i st3 es e2;split at e1
    ·rename_i hd;cases e1;cases e;exact⟨_,_,e2,hd,hq⟩
    ·cases e1
   ·cases e1
  ·cases e
 ·rintro⟨st',es,e,hd,hq⟩;rw[e];unfold vZ at hd;simp only[hd];exact⟨_,_,rfl,hq⟩
@[go_sem] theorem I5 {ops:List Oper} {s:List AV} {h:List Blk} {K:List AV->List Blk->Prop}:EVO P call ops [] s h K=K s h:=by
 apply propext;unfold EVO;simp only[iv];constructor
 ·rintro⟨st',e,hq⟩;cases e;exact hq
 ·intro hq;exact⟨_,rfl,hq⟩
theorem qM{ops:List Oper}{o:Oper}{s:List AV}{h:List Blk}(hw:dj ops o s=some true){K:St->Prop}:
  (∃st',(∃e,kD P call ops o ⟨s,h⟩=some (st',e))/\K st')↔EVP call (evalOp P (evA s) h h.length o) o.dst s h (fun m p=>K ⟨m,p⟩):=by
 unfold kD EVP;simp only[hw,eU];cases evalOp P (evA s) h h.length o with
 |none=>simp
 |some r=>
  cases r with
  |pure v=>simp only;constructor;(rintro⟨st',⟨e,he⟩,j⟩;cases he;exact j);(intro j;exact⟨_,⟨_,rfl⟩,j⟩)
  |eff v ws=>simp only;constructor;(rintro⟨st',⟨e,he⟩,j⟩;cases he;exact j);(intro j;exact⟨_,⟨_,rfl⟩,j⟩)
  |call f args=>
   simp only[EVK];cases call f args h with
   |none=>simp
   |some r=>
    cases r with
    |loc v ws rd n=>simp only;constructor;(rintro⟨st',⟨e,he⟩,j⟩;cases he;exact j);(intro j;exact⟨_,⟨_,rfl⟩,j⟩)
    |whole v H=>simp only;constructor;(rintro⟨st',⟨e,he⟩,j⟩;cases he;exact j);(intro j;exact⟨_,⟨_,rfl⟩,j⟩)
theorem BC{ops:List Oper}{o:Oper}{s:List AV}{h:List Blk}(hw:dj ops o s=some false){K:St->Prop}:
  (∃st',(∃e,kD P call ops o ⟨s,h⟩=some (st',e))/\K st')↔K ⟨gX s o.dst (.at undef),h⟩:=by
 unfold kD;simp only[hw,eU];constructor
 ·rintro⟨st',⟨e,he⟩,j⟩;cases he;exact j
 ·intro j;exact⟨_,⟨_,rfl⟩,j⟩
theorem mq{ops:List Oper}{o:Oper}{rest:List Oper}{s:List AV}{h:List Blk}{K:List AV->List Blk->Prop}:
  EVO P call ops (o::rest) s h K↔∃st',(∃e,kD P call ops o ⟨s,h⟩=some (st',e))/\EVO P call ops rest st'.slots st'.heap K:=by
 unfold EVO;simp only[iv];constructor
 ·rintro⟨st',e,m⟩;split at e
  ·rename_i j p e1;exact⟨j,⟨p,e1⟩,st',e,m⟩
  ·cases e
 ·rintro⟨j,⟨p,e1⟩,st',e,m⟩;rw[e1];exact⟨st',e,m⟩
@[go_sem] theorem IN {ops:List Oper} {dst:Option Tmp} {op:Op} {ty:TypeId} {pos:String} {after:Array Edge} {rest:List Oper} {x:AV} {s:List AV} {h:List Blk} {K:List AV->List Blk->Prop}:
  EVO P call ops (⟨dst,op,ty,pos,after,none⟩::rest) (x::s) h K=EVP call (evalOp P (evA (x::s)) h h.length ⟨dst,op,ty,pos,after,none⟩) dst (x::s) h (fun s' h'=>EVO P call ops rest s' h' K):=
 propext (mq.trans (qM rfl (K:=fun st=>EVO P call ops rest st.slots st.heap K)))
end
end Go.Eng

