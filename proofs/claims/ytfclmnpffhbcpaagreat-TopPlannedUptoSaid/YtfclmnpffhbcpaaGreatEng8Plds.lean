import Derived.Test.YtfclmnpffhbcpaaGreatEng5Plds
set_option linter.all false
namespace Go.Eng
open Go Go.RowKit
variable[Dr]
theorem Ar{P:Program}{ρ:Operand->AV}{H H':List Blk}{nid:Nat}{o:Oper}(h:∀b∈rm H ρ o,H[b]?=H'[b]?):evalOp P ρ H nid o=evalOp P ρ H' nid o:=by
 have I:∀a:AV,(∀b∈eL a,H[b]?=H'[b]?)->cellAt H a=cellAt H' a:=by
  intro a O;cases a<;>simp only[cellAt];rw[O _ (by simp[eL])]
 have E:∀a:AV,(∀b∈eL a,H[b]?=H'[b]?)->oW H a=oW H' a:=by
  intro a O;cases a<;>simp only[oW];rw[O _ (by simp[eL])]
 have D:∀(n:Nat) (a:AV),(∀b∈eL a,H[b]?=H'[b]?)->kS H n a=kS H' n a:=by
  intro n a O;unfold kS;split<;>try rfl
  rw[O _ (by simp[eL])]
 have C:∀a:AV,(∀b∈eL a,H[b]?=H'[b]?)->lL H a=lL H' a:=by
  intro a O;cases a<;>simp only[lL];rw[O _ (by simp[eL])]
 unfold evalOp;unfold rm at h;cases R:o.op<;>simp only[R,xQ,tl,yV,vn,lF,uM,pH,qH,ml,uP,wx,nV]at h ⊢
 case load t a=>
  simp only[yG,I _ h,E _ h]
 case store t a x=>
  simp only[zx];cases O:ρ a<;>simp only;rw[h _ (by simp[O,eL])]
 case slice t x lo hi mx=>
  cases mx with
  |some _=>rfl
  |none=>
   simp only;have:∀y lo hi,(∀b∈eL y,H[b]?=H'[b]?)->vM P H t y lo hi=vM P H' t y lo hi:=by
    intro y lo hi J;simp only[vM];cases P.underlying t with
    |none=>rfl
    |some d=>
     cases d<;>simp only;cases fW P _<;>cases y<;>simp only;rw[J _ (by simp[eL])]
   split
   ·rfl
   ·rw[this _ _ _ h]
 case makeFunc fn T cs=>cases fn<;>rfl
 case lookup t x ix ok=>simp only[gF,C _ h]
 case mapUpdate t m k x=>simp only[jz,C _ h]
 case insert t m k x=>simp only[jz,C _ h]
 case mapEntry t m k=>simp only[nN,C _ h]
 case entryStore t m k x=>simp only[mK,C _ h]
 case range t x=>simp only[tp,C _ h]
 case entry it=>
  have h1:uy H (ρ it)=uy H' (ρ it):=by
   unfold uy;split
   ·rename_i j heq;rw[h j (by rw[heq];simp[eL])]
   ·rfl
  simp only[nZ,<-h1];cases hi:uy H (ρ it)with
  |none=>rfl
  |some q=>obtain⟨m,n,seen⟩:=q;simp only;rw[h m (by simp[hi])]
 case call c=>
  cases hc:c.callee<;>simp only;simp only[om];split<;>try rfl
  ·rename_i x heq;have h1:∀b∈eL x,H[b]?=H'[b]?:=by
    intro b N;refine h b (List.mem_flatMap.2 ?_);have:x∈c.args.toList.map ρ:=by rw[heq];simp
    obtain⟨y,J,rfl⟩:=List.mem_map.1 this;exact⟨y,J,N⟩
   have:∀t,Eg P H t x=Eg P H' t x:=by
    intro t;unfold Eg;split
    ·rw[h1 _ (by simp[eL])]
    ·rfl
   simp only[this]
  ·rename_i s x heq;have h1:∀b∈eL s,H[b]?=H'[b]?:=by
    intro b N;refine h b (List.mem_flatMap.2 ?_);have:s∈c.args.toList.map ρ:=by rw[heq];simp
    obtain⟨y,J,rfl⟩:=List.mem_map.1 this;exact⟨y,J,N⟩
   have S:∀b∈eL x,H[b]?=H'[b]?:=by
    intro b N;refine h b (List.mem_flatMap.2 ?_);have:x∈c.args.toList.map ρ:=by rw[heq];simp
    obtain⟨y,J,rfl⟩:=List.mem_map.1 this;exact⟨y,J,N⟩
   have:∀n by_,kE H nid n by_ s x=kE H' nid n by_ s x:=by
    intro n by_;simp only[kE,D _ _ S];split
    ·rfl
    ·split
     ·rfl
     ·rfl
     ·rw[h1 _ (by simp[eL])]
     ·rw[h1 _ (by simp[eL])]
     ·rfl
   simp only[this]
  ·rename_i s x heq;have h1:∀b∈eL s,H[b]?=H'[b]?:=by
    intro b N;refine h b (List.mem_flatMap.2 ?_);have:s∈c.args.toList.map ρ:=by rw[heq];simp
    obtain⟨y,J,rfl⟩:=List.mem_map.1 this;exact⟨y,J,N⟩
   have S:∀b∈eL x,H[b]?=H'[b]?:=by
    intro b N;refine h b (List.mem_flatMap.2 ?_);have:x∈c.args.toList.map ρ:=by rw[heq];simp
    obtain⟨y,J,rfl⟩:=List.mem_map.1 this;exact⟨y,J,N⟩
   have:∀n,xW H n s x=xW H' n s x:=by
    intro n;simp only[xW,D _ _ S];split
    ·rfl
    ·split
     ·rw[h1 _ (by simp[eL])]
     ·rfl
   simp only[this]
  ·rename_i d heq;have h1:∀b∈eL d,H[b]?=H'[b]?:=by
    intro b N;refine h b (List.mem_flatMap.2 ?_);have:d∈c.args.toList.map ρ:=by rw[heq];simp
    obtain⟨y,J,rfl⟩:=List.mem_map.1 this;exact⟨y,J,N⟩
   have:∀n z,tO H n z d=tO H' n z d:=by
    intro n z;simp only[tO];split
    ·rw[h1 _ (by simp[eL])]
    ·rfl
   simp only[this]
theorem xE{P:Program}{ρ ρ':Operand->AV}{H:List Blk}{nid:Nat}{o:Oper}(h:∀x∈o.op.operands.toList,ρ x=ρ' x):evalOp P ρ H nid o=evalOp P ρ' H nid o:=by
 have j:∀(l:List (Nat×Operand)),(∀x∈(l.map (·.2)),ρ x=ρ' x)->(l.map fun p=>(p.1,ρ p.2))=l.map fun p=>(p.1,ρ' p.2):=by
  intro l C;apply List.map_congr_left;intro p hp;rw[C _ (List.mem_map_of_mem hp)]
 have q:∀(l:List Operand),(∀x∈l,ρ x=ρ' x)->l.map ρ=l.map ρ':=fun l C=>List.map_congr_left C
 unfold evalOp;cases D:o.op<;>simp only[D,Op.operands,xQ,tl,yV,vn,lF,uM,pH,qH,ml,uP,wx,nV]at h ⊢
 case move x=>rw[h x (by simp)]
 case «assign» x=>rw[h x (by simp)]
 case pick c a b=>rw[h c (by simp),h a (by simp),h b (by simp)]
 case box t x=>rw[h x (by simp)]
 case build t I=>rw[j _ (by simpa using h)]
 case buildSlice t n I=>rw[j _ (by simpa using h)]
 case load t a=>rw[h a (by simp)]
 case store t a x=>rw[h a (by simp),h x (by simp)]
 case nilCheck x=>rw[h x (by simp)]
 case binOp op t x y u=>rw[h x (by simp),h y (by simp)]
 case unOp op t x=>rw[h x (by simp)]
 case convert s d x=>rw[h x (by simp)]
 case makeFunc fn J cs=>
  cases fn<;>simp only;rw[q J.toList (fun x z=>h x (by simp at z ⊢;exact .inl z)),q cs.toList (fun x z=>h x (by simp at z ⊢;exact .inr z))]
 case makeSlice t l c=>rw[h l (by simp),h c (by simp)]
 case slice t x lo hi mx=>
  cases mx with
  |some _=>rfl
  |none=>
   have e1:ρ x=ρ' x:=h x (by simp);have e2:lo.map ρ=lo.map ρ':=by cases lo with|none=>rfl|some y=>simp[h y (by simp)]
   have e3:hi.map ρ=hi.map ρ':=by cases hi with|none=>rfl|some y=>simp[h y (by simp)]
   simp only[e1,e2,e3];cases lo<;>cases hi<;>simp_all
 case fieldAddr s x f=>rw[h x (by simp)]
 case field s x f=>rw[h x (by simp)]
 case indexAddr t x ix=>rw[h x (by simp),h ix (by simp)]
 case index t x ix=>rw[h x (by simp),h ix (by simp)]
 case extract t ix=>rw[h t (by simp)]
 case makeMap t r=>
  have e:r.map ρ=r.map ρ':=by cases r with|none=>rfl|some y=>simp[h y (by simp)]
  rw[e]
 case lookup t x ix ok=>rw[h x (by simp),h ix (by simp)]
 case mapUpdate t m k x=>rw[h m (by simp),h k (by simp),h x (by simp)]
 case insert t m k x=>rw[h m (by simp),h k (by simp),h x (by simp)]
 case mapEntry t m k=>rw[h m (by simp),h k (by simp)]
 case range t x=>rw[h x (by simp)]
 case entry it=>rw[h it (by simp)]
 case entryStore t m k x=>rw[h m (by simp),h k (by simp),h x (by simp)]
 case call c=>
  have E:c.args.toList.map ρ=c.args.toList.map ρ':=q _ fun x z=>h x (by simp only[Call.operands,Array.toList_append,List.mem_append];exact .inr z)
  cases hc:c.callee<;>simp only
  case value f=>
   have:ρ f=ρ' f:=h f (by simp[Call.operands,hc]);rw[this,E]
  case builtin b=>rw[E]
end Go.Eng


namespace Go.Eng
open Go Go.RowKit
variable[Dr]
structure St where
 slots:List AV
 heap:List Blk
inductive wP where
 |loc (v:AV) (ws:List (Nat×Blk)) (rd:List Nat) (n:Nat)
 |whole (v:AV) (H:List Blk)
abbrev gi:=FuncId->List AV->List Blk->Option wP
noncomputable def wW(l:List AV):Nat->AV:=
 List.rec (motive:=fun _=>Nat->AV) (fun _=>.unk) (fun x _ j n=>Nat.rec (motive:=fun _=>AV) x (fun m _=>j m) n) l
theorem rk(l:List AV):∀n:Nat,wW l n=l.getD n .unk:=by
 induction l with
 |nil=>intro n;rfl
 |cons x l j=>intro n;cases n with
  |zero=>rfl
  |succ n=>exact(j n).trans (by simp)
noncomputable def GP{α:Type}(l:List AV):Nat->AV->(List AV->α)->α:=
 List.rec (motive:=fun _=>Nat->AV->(List AV->α)->α) (fun _ _ k=>k []) (fun x xs j n v k=>Nat.rec (motive:=fun _=>α) (k (v::xs)) (fun m _=>j m v (fun r=>k (x::r))) n) l
theorem EH{α:Type}(l:List AV):∀(n:Nat) (v:AV) (k:List AV->α),GP l n v k=k (l.set n v):=by
 induction l with
 |nil=>intro n v k;rfl
 |cons x l j=>intro n v k;cases n with
  |zero=>rfl
  |succ n=>exact j n v _
noncomputable def evA(slots:List AV):Operand->AV
 |.tmp t=>wW slots t
 |.const v=>.at v
 |.global g=>.at (.pointer (some ⟨g,0,none⟩))
 |.func f=>.fn f [] []
def iL(slots:List AV)(dst:Option Tmp)(v:AV):List AV:=match dst with|some d=>slots.set d v|none=>slots
noncomputable def Da{α:Type}(slots:List AV)(dst:Option Tmp)(v:AV)(k:List AV->α):α:=match dst with|some d=>GP slots d v k|none=>k slots
theorem fN{α:Type}(slots:List AV)(dst:Option Tmp)(v:AV)(k:List AV->α):Da slots dst v k=k (iL slots dst v):=by
 cases dst with
 |none=>rfl
 |some d=>exact EH slots d v k
noncomputable def ef(ops:List Oper)(o:Oper)(slots:List AV):Option Bool:=
 match o.guard with
 |none=>some true
 |some (j,want)=>match ops[j]? with
  |some oj=>(match oj.dst with|some d=>(match wW slots d with|.at (.bool b)=>some (b==want)|.at (.tuple _)=>some false|_=>none)|none=>none)
  |none=>none
def jw(n:Nat):List Blk:=List.replicate n .dead
structure Ent where
 o:Oper
 nid:Nat
 v:AV
 ws:List (Nat×Blk)
 rd:List Nat
 n:Nat
noncomputable def lO(P:Program)(call:gi)(ops:List Oper)(o:Oper)(st:St):Option (St×Option Ent):=
 match ef ops o st.slots with
 |some true=>(match evalOp P (evA st.slots) st.heap st.heap.length o with
  |some (.pure v)=>Da st.slots o.dst v fun s=>some (⟨s,st.heap⟩,some ⟨o,st.heap.length,v,[],rm st.heap (evA st.slots) o,0⟩)
  |some (.eff v ws)=>Da st.slots o.dst v fun s=>some (⟨s,bj st.heap ws⟩,some ⟨o,st.heap.length,v,ws,rm st.heap (evA st.slots) o,0⟩)
  |some (.call f args)=>(match call f args st.heap with
   |some (.loc v ws rd n)=>Da st.slots o.dst v fun s=>some (⟨s,bj (st.heap++jw n) ws⟩,some ⟨o,st.heap.length,v,ws,rd,n⟩)
   |some (.whole v H)=>Da st.slots o.dst v fun s=>some (⟨s,H⟩,none)
   |none=>none)
  |none=>none)
 |some false=>Da st.slots o.dst (.at undef) fun s=>some (⟨s,st.heap⟩,some ⟨o,st.heap.length,.at undef,[],[],0⟩)
 |none=>none
noncomputable def jj(P:Program)(call:gi)(ops:List Oper):List Oper->St->Option St
 |[],st=>some st
 |o::rest,st=>match lO P call ops o st with
  |some (st',_)=>jj P call ops rest st'
  |none=>none
def oH(len:Nat)(e:Ent):Bool:=
 (e.rd.all fun b=>decide (b<len))&&
 match e.n with
 |0=>e.ws.all fun p=>decide (p.1<=len)
 |n+1=>(e.ws.all fun p=>decide (p.1<len+(n+1)))&&(List.range (n+1)).all fun j=>(e.ws.map (·.1)).contains (len+j)
noncomputable def gO(P:Program)(call:gi)(ops:List Oper):List Oper->St->Option (St×List Ent)
 |[],st=>some (st,[])
 |o::rest,st=>match lO P call ops o st with
  |some (st',some e)=>(match oH st.heap.length e,gO P call ops rest st' with|true,some (j,es)=>some (j,e::es)|_,_=>none)
  |_=>none
def Bx(l:List Operand):List Tmp:=l.filterMap fun|.tmp t=>some t|_=>none
def fx(ops:List Oper)(o:Oper):List Tmp:=
 Bx o.op.operands.toList++(match o.guard with|some (j,_)=>(match ops[j]? with|some oj=>oj.dst.toList|none=>[])|none=>[])
def xa(acc:List Nat)(o:Oper):Nat:=o.after.toList.foldl (fun s e=>if Region.binds .any e then s ||| (2^e.on ||| acc.getD e.on 0)else s) 0
def uC:List Nat->List Oper->List Nat
 |acc,[]=>acc
 |acc,o::rest=>uC (acc++[xa acc o]) rest
def uo(l k:List Nat):Bool:=l.all fun x=>!k.contains x
def Ah(ops:List Oper)(a b:Ent):Bool:=
 let j:=a.o.dst.toList;let q:=b.o.dst.toList
 uo j (fx ops b.o)&&uo j q&&uo q (fx ops a.o)&&
 uo (a.ws.map (·.1)) b.rd&&uo (a.ws.map (·.1)) (b.ws.map (·.1))&&uo (b.ws.map (·.1)) a.rd
def tC(ops:List Oper)(a b:Ent)(j:List Ent):Bool:=
 match a.o.op,b.o.op with
 |.lookup t (.tmp m) (.tmp k) false,.mapEntry q (.tmp m') (.tmp k')=>
  Nat.beq t q&&Nat.beq m m'&&Nat.beq k k'&&a.o.guard.isNone&&b.o.guard.isNone&&a.ws.isEmpty&&uo a.o.dst.toList (fx ops b.o)&&uo a.o.dst.toList b.o.dst.toList&&uo b.o.dst.toList (fx ops a.o)&&
  j.all fun c=>uo (c.ws.map (·.1)) a.rd&&!c.o.dst.toList.contains m&&!c.o.dst.toList.contains k
 |_,_=>false
def sm(ops:List Oper)(b:Ent)(m:Nat):List Ent->Nat->Bool
 |[],_=>true
 |a::es,i=>(m.testBit i||Ah ops a b||tC ops a b es)&&(a.ws.all fun p=>decide (p.1<b.nid))&&sm ops b m es (i+1)
def pL(ops:List Oper)(q:List Nat)(all:List Ent):List Ent->Nat->Bool
 |[],_=>true
 |b::es,j=>sm ops b (q.getD j 0) (all.take j) 0&&pL ops q all es (j+1)
def rl:List Oper->Nat->Bool
 |[],_=>true
 |o::rest,i=>o.after.toList.all (fun e=>!Region.binds .any e||decide (e.on<i))&&rl rest (i+1)
noncomputable def kX(P:Program)(call:gi)(ops:List Oper)(draw:Bool)(st:St):Option St:=
 match draw with
 |false=>jj P call ops ops st
 |true=>match gO P call ops ops st with
  |some (st',es)=>(match rl ops 0&&pL ops (uC [] ops) es es 0 with|true=>some st'|false=>none)
  |none=>none
inductive X where
 |normal
 |exit (id:Nat)
 |ret
def iter(f:St->Option (X×St)):Nat->St->Option (X×St)
 |0,_=>none
 |n+1,st=>match f st with
  |some (.normal,st')=>iter f n st'
  |r=>r
noncomputable def evalCode(P:Program)(call:gi)(n:Nat):Code->St->Option (X×St)
 |.skip,st=>some (.normal,st)
 |.label _,st=>some (.normal,st)
 |.region _ ops draw,st=>(match kX P call ops.toList draw st with|some st'=>some (.normal,st')|none=>none)
 |.seq a b,st=>(match evalCode P call n a st with|some (.normal,st')=>evalCode P call n b st'|r=>r)
 |.cond c a b,st=>(match evA st.slots c with|.at (.bool true)=>evalCode P call n a st|.at (.bool false)=>evalCode P call n b st|_=>none)
 |.block id c,st=>(match evalCode P call n c st with|some (.exit j,st')=>(match decide (j=id)with|true=>some (.normal,st')|false=>some (.exit j,st'))|r=>r)
 |.loop c,st=>iter (evalCode P call n c) n st
 |.exit id,st=>some (.exit id,st)
 |.ret,st=>some (.ret,st)
 |_,_=>none
noncomputable def wY(P:Program)(st:St):ResultVar->Option AV
 |.tmp t=>some (wW st.slots t)
 |.cell a t=>yG P st.heap t (wW st.slots a)
noncomputable def fF(P:Program)(st:St):List ResultVar->Option (List AV)
 |[]=>some []
 |r::rs=>match wY P st r,fF P st rs with|some v,some vs=>some (v::vs)|_,_=>none
def ki:List AV->AV|[v]=>v|vs=>.tup vs
def uF(n:Nat):List AV:=List.replicate n .unk
def vT{α β:Type}(f:α->Option β):List α->Option (List β)
 |[]=>some []
 |x::xs=>match f x,vT f xs with|some y,some ys=>some (y::ys)|_,_=>none
def qI(H:List Blk)(ok:Nat->Bool):Nat->AV->Option AV
 |_,.unk=>some .unk
 |_,.at v=>some (.at v)
 |_,.sl nl cs len=>some (.sl nl cs len)
 |_,.pp cs off=>some (.pp cs off)
 |0,_=>none
 |n+1,.hs b off len es=>(match ok b,kS H es (.hs b off len es)with
  |true,some (cs,m)=>(match vT (qI H ok n) cs with|some cs'=>some (.sl true cs' m)|none=>none)
  |_,_=>none)
 |n+1,.hp b off=>(match ok b,H[b]? with
  |true,some (.own cs)=>(match vT (qI H ok n) cs with|some cs'=>some (.pp cs' off)|none=>none)
  |true,some (.fix cs)=>(match vT (qI H ok n) cs with|some cs'=>some (.pp cs' off)|none=>none)
  |_,_=>none)
 |_+1,.mp _=>none
 |_+1,.hc ..=>none
 |n+1,.agg cs=>(match vT (qI H ok n) cs with|some cs'=>some (.agg cs')|none=>none)
 |n+1,.tup cs=>(match vT (qI H ok n) cs with|some cs'=>some (.tup cs')|none=>none)
 |n+1,.fn f q cs=>(match vT (qI H ok n) q,vT (qI H ok n) cs with|some j,some cs'=>some (.fn f j cs')|_,_=>none)
mutual
def rj:AV->Bool
 |.unk|.at _=>false
 |.agg cs=>rv cs
 |.tup cs=>rv cs
 |.fn _ j cs=>rv j||rv cs
 |_=>true
def rv:List AV->Bool
 |[]=>false
 |c::cs=>rj c||rv cs
end
mutual
def pT:AV->List Nat
 |.hs b _ _ _=>[b]
 |.hc b _ _ _ _=>[b]
 |.hp b _=>[b]
 |.mp b=>[b]
 |.agg cs=>dd cs
 |.tup cs=>dd cs
 |.fn _ j cs=>dd j++dd cs
 |_=>[]
def dd:List AV->List Nat
 |[]=>[]
 |c::cs=>pT c++dd cs
end
def ET(G:List Blk)(ok:Nat->Bool)(ρ:Nat->Option Nat):Nat->AV->Option AV
 |n,.hs b off len es=>(match ρ b with|some c=>some (.hs c off len es)|none=>qI G ok n (.hs b off len es))
 |n,.hp b off=>(match ρ b with|some c=>some (.hp c off)|none=>qI G ok n (.hp b off))
 |n+1,.agg cs=>(match vT (ET G ok ρ n) cs with|some cs'=>some (.agg cs')|none=>none)
 |n+1,.tup cs=>(match vT (ET G ok ρ n) cs with|some cs'=>some (.tup cs')|none=>none)
 |n,x=>qI G ok n x
def Ec(l:List Nat)(x:Nat):List Nat:=if l.contains x then l else l++[x]
def frz:RC->AV
 |.row len _ cs=>.sl true cs len
 |.av A=>A
def fzC:Blk->Option (List AV)
 |.own cs=>some cs
 |.rows rs=>some (rs.map frz)
 |_=>none
def fp(H:List Blk)(l:List Nat):List (Nat×Blk):=
 l.filterMap fun b:Nat=>match (H[b]?:Option Blk)with|some (.own cs)=>some (b,.fix cs)|some (.rows rs)=>some (b,.fix (rs.map frz))|_=>none
def findAt(l:List Nat)(x base:Nat):Option Nat:=match l with
 |[]=>none
 |y::ys=>if y=x then some base else findAt ys x (base+1)
def zH(G:List Blk)(ok:Nat->Bool)(n:Nat):List Nat->Option (List (List AV))
 |[]=>some []
 |b::j=>match G[b]? with
  |some (.own cs)=>(match vT (qI G ok n) cs,zH G ok n j with|some cs',some l=>some (cs'::l)|_,_=>none)
  |_=>none
def Az(nid:Nat):List (List AV)->List (Nat×Blk)
 |[]=>[]
 |x::xs=>(nid,.own x)::Az (nid+1) xs
def DX:Option Blk->Bool|some (.own _)=>true|_=>false
def BA:List Nat->Bool
 |[]=>true
 |x::xs=>!xs.contains x&&BA xs
def DM(n:Nat)(l:List Nat)(H G:List Blk)(r:AV):Option wP:=
 match rj r with
 |false=>some (.loc r [] l 0)
 |true=>
  let σ:=((pT r).filter fun b=>DX G[b]?).foldl Ec [];match BA σ,zH G (fun b=>!σ.contains b) n σ,ET G (fun b=>!σ.contains b) (findAt σ · H.length) n r with
  |true,some new,some j=>some (.loc j (fp H l++Az H.length new) l new.length)
  |_,_,_=>none
end Go.Eng


namespace Go.Eng
open Go Go.RowKit
variable[Dr]
def kN(P:Program)(f:FuncId)(args:List AV)(H:List Blk):wP->Prop
 |.loc v ws rd n=>∀H':List Blk,H.length+n<=H'.length->(∀b∈rd,b<H.length->H'[b]?=H[b]?)->∀(out:Nat->Prop) (B:Nat->Prop) (w:World) (π:List (Option PB)) (vs:List Value),
   Inv out B w π H'->(∀j,H.length<=j->j<H.length+n->∀q,π[j]?≠some (some q))->RvL w (aY out π H') π args vs->
   Calls P f vs.toArray w fun e w'=>∃u π',e=.returned u/\Ext B w w' (aY out π H') (aY out π' (bj H' ws)) π π'/\Inv out B w' π' (bj H' ws)/\Rv w' (aY out π' (bj H' ws)) π' v u/\
    ∀j,(∀b,(j,b)∉ws)->π'[j]?=π[j]?
 |.whole v H'=>∀(out:Nat->Prop) (B:Nat->Prop) (w:World) (π:List (Option PB)) (vs:List Value),Inv out B w π H->RvL w (aY out π H) π args vs->
   Calls P f vs.toArray w fun e w'=>∃u π',e=.returned u/\Ext B w w' (aY out π H) (aY out π' H') π π'/\Inv out B w' π' H'/\Rv w' (aY out π' H') π' v u
def lB(P:Program)(call:gi):Prop:=∀f args H r,call f args H=some r->kN P f args H r
structure Rep (out:Nat->Prop) (B:Nat->Prop) (w:World) (π:List (Option PB)) (st:St) (a:Act):Prop where
 defers:a.defers=[]
 slots:RvL w (aY out π st.heap) π st.slots a.tmps.toList
 inv:Inv out B w π st.heap
section
variable{P:Program}{out:Nat->Prop}{B:Nat->Prop}{w:World}{π:List (Option PB)}
theorem nF{mu:Nat->Prop}{slots:List AV}{tmps:Array Value}(h:RvL w mu π slots tmps.toList)(t:Nat):Rv w mu π (wW slots t) (tmps.getD t undef):=by
 rw[rk];cases hs:slots[t]? with
 |none=>simp[List.getD,hs,Rv]
 |some A=>
  obtain⟨v,h1,j⟩:=RvL.get _ _ t A h hs;have e1:slots.getD t .unk=A:=by simp[List.getD,hs]
  have e2:tmps.getD t undef=v:=by
   rw[Array.getElem?_toList]at h1;rw[Array.getD_eq_getD_getElem?,h1];rfl
  rw[e1,e2];exact j
theorem nC{mu:Nat->Prop}{slots:List AV}{a:Act}(h:RvL w mu π slots a.tmps.toList):∀x,Rv w mu π (evA slots x) (a.eval x)
 |.tmp t=>nF h t
 |.const _=>rfl
 |.global _=>rfl
 |.func _=>⟨#[],#[],rfl,rfl,rfl⟩
theorem nO{mu:Nat->Prop}{ops:Array Oper}{o:Oper}{slots:List AV}{a:Act}{b:Bool}(h:RvL w mu π slots a.tmps.toList)(hw:ef ops.toList o slots=some b):
  Region.wanted o (yielded ops a.tmps)=b:=by
 unfold ef at hw;unfold Region.wanted;split at hw
 ·rename_i D;cases hw;simp[D]
 ·rename_i j want D;split at hw
  ·rename_i oj C;split at hw
   ·rename_i d E;split at hw
    ·rename_i c hc;cases hw;have hs:=nF h d;rw[hc]at hs;have q:a.tmps.getD d undef=.bool c:=hs;have I:a.tmps[d]?=some (.bool c):=by
      rw[Array.getD_eq_getD_getElem?]at q;cases z:a.tmps[d]? with
      |none=>rw[z]at q;simp[undef]at q
      |some x=>rw[z]at q;simpa using q
     have J:yielded ops a.tmps j=some c:=by
      rw[Array.getElem?_toList]at C;simp[yielded,C,E,I]
     simp[D,J]
    ·rename_i vs hc;cases hw;have hs:=nF h d;rw[hc]at hs;have q:a.tmps.getD d undef=.tuple vs:=hs;have J:yielded ops a.tmps j=none:=by
      rw[Array.getElem?_toList]at C;rw[Array.getD_eq_getD_getElem?]at q;cases z:a.tmps[d]? with
      |none=>simp[yielded,C,E,z]
      |some x=>rw[z]at q;simp only[Option.getD_some]at q;subst q;simp[yielded,C,E,z]
     simp[D,J]
    ·cases hw
   ·cases hw
  ·cases hw
theorem C9{mu:Nat->Prop}{slots:List AV}{a:Act}{dst:Option Tmp}{A:AV}{v:Value}(h:RvL w mu π slots a.tmps.toList)(j:Rv w mu π A v):RvL w mu π (iL slots dst A) (a.put dst v).tmps.toList:=by
 cases dst with
 |none=>exact h
 |some d=>simp only[iL,Act.put,Array.toList_setIfInBounds];exact RvL.set _ _ d A v h j
theorem put_defers{a:Act}{dst:Option Tmp}{v:Value}:(a.put dst v).defers=a.defers:=by cases dst<;>rfl
theorem Inv.extend{H:List Blk}(D:Inv out B w π H)(n:Nat):
  Inv out B w (π++List.replicate n none) (H++jw n)/\Ext B w w (aY out π H) (aY out (π++List.replicate n none) (H++jw n)) π (π++List.replicate n none):=by
 have Y:=D.len;have I:∀{i:Nat} {x:Blk},(H++jw n)[i]?=some x->H[i]?=some x\/(H.length<=i/\x=.dead):=by
  intro i x h;by_cases hi:i<H.length
  ·rw[List.getElem?_append_left hi]at h;exact .inl h
  ·rw[List.getElem?_append_right (by omega)]at h;refine .inr ⟨by omega,?_⟩;have:=List.mem_of_getElem? h;simp[jw]at this;exact this.2
 have gπ:∀{i:Nat} {p:PB},(π++List.replicate n none)[i]?=some (some p)->π[i]?=some (some p):=by
  intro i p h;by_cases hi:i<π.length
  ·rwa[List.getElem?_append_left hi]at h
  ·rw[List.getElem?_append_right (by omega)]at h;have:=List.mem_of_getElem? h;simp at this
 have R:Ext B w w (aY out π H) (aY out (π++List.replicate n none) (H++jw n)) π (π++List.replicate n none):=by
  refine⟨fun _ _=>rfl,Nat.le_refl _,fun b _ S=>⟨rfl,?_⟩,fun i p h=>?_,rfl,rfl,rfl,fun _=>Nat.le_refl _⟩
  ·rintro(Z|⟨i,x,p,h1,C,E,J⟩)
   ·exact S (.inl Z)
   ·rcases I h1 with z|⟨_,rfl⟩
    ·exact S (.inr ⟨i,x,p,z,C,gπ E,J⟩)
    ·simp[Blk.gr]at C
  ·rw[List.getElem?_append_left (aW h)];exact h
 refine⟨⟨by simp[Y,jw],D.bound,D.out_lt,?_,?_,?_⟩,R⟩
 ·intro i x p b h1 C E;rcases I h1 with z|⟨_,rfl⟩
  ·exact D.baseO i x p b z (gπ C) E
  ·exact E.elim
 ·intro i x p h1 C;rcases I h1 with z|⟨_,rfl⟩
  ·exact fD.ext R (fun _ _=>rfl) (D.ok i x p z (gπ C))
  ·trivial
 ·intro i j x y p q b N h1 C E J T h6 U;rcases I h1 with z|⟨_,rfl⟩
  ·rcases I C with O|⟨_,rfl⟩
   ·exact D.sepO i j x y p q b N z O (gπ E) (gπ J) T h6 U
   ·exact U.elim
  ·simp[Blk.gr]at T
theorem sY{H:List Blk}(j:Inv out B w π H):∀q,π[H.length]?≠some (some q):=by
 intro q h;have:=aW h;have:=j.len;omega
theorem Rep.ext{w':World}{π':List (Option PB)}{H H':List Blk}{slots:List AV}{a:Act}(j:a.defers=[])(hs:RvL w (aY out π H) π slots a.tmps.toList)(q:Ext B w w' (aY out π H) (aY out π' H') π π')(z:Inv out B w' π' H')
  {dst:Option Tmp} {A:AV} {v:Value} (C:Rv w' (aY out π' H') π' A v):Rep out B w' π' ⟨iL slots dst A,H'⟩ (a.put dst v):=
 ⟨by rw[put_defers];exact j,C9 (RvL.ext q _ _ hs) C,z⟩
theorem A7(D:zA P){call:gi}(C:lB P call){ops:Array Oper}{o:Oper}{st st':St}{oe:Option Ent}{a:Act}(z:Rep out B w π st a)(h:lO P call ops.toList o st=some (st',oe))
  {K:Act->World->Prop} {Q:Exit->Act->World->Prop}
  (E:∀a' w' π',Rep out B w' π' st' a'->Ext B w w' (aY out π st.heap) (aY out π' st'.heap) π π'->K a' w'):
  if Region.wanted o (yielded ops a.tmps)then o.wp P a w K Q\/(o.asks P a w/\LetsOut Q)else K (a.put o.dst undef) w:=by
 unfold lO at h;split at h
 ·rename_i hw;rw[if_pos (nO z.slots hw)];refine .inl ?_;unfold Oper.wp;split at h
  ·rename_i v O;rw[fN]at h;cases h;obtain⟨nx,u,h1,N,I⟩:=lH D z.inv (Nat.le_refl _) (sY z.inv) (nC z.slots) O;rw[h1];rcases N with rfl|⟨rfl,rfl⟩
   ·exact E _ _ π (Rep.ext z.defers z.slots (Ext.refl _ _ _) z.inv I) (Ext.refl _ _ _)
   ·exact E _ _ π (Rep.ext z.defers z.slots (Ext.refl _ _ _) z.inv I) (Ext.refl _ _ _)
  ·rename_i v ws O;rw[fN]at h;cases h;obtain⟨nx,u,w',π',h1,N,I,U,Y,_⟩:=lH D z.inv (Nat.le_refl _) (sY z.inv) (nC z.slots) O;rw[h1];rcases N with rfl|⟨rfl,rfl⟩
   ·exact E _ _ π' (Rep.ext z.defers z.slots I U Y) I
   ·exact E _ _ π' (Rep.ext z.defers z.slots I U Y) I
  ·rename_i f args O;obtain⟨vs,h1,N⟩:=lH D z.inv (Nat.le_refl _) (sY z.inv) (nC z.slots) O;rw[h1];simp only[Oper.upon];split at h
   ·rename_i v ws rd n hc;rw[fN]at h;cases h;obtain⟨R,J⟩:=z.inv.extend n;have hl:=z.inv.len;have:=C _ _ _ _ hc (st.heap++jw n) (by simp[jw]) (fun b _ S=>by rw[List.getElem?_append_left S]) out B w (π++List.replicate n none) vs.toList R (fun j h1 _ q Z=>by
          rw[List.getElem?_append_right (by omega)]at Z;have:=List.mem_of_getElem? Z;simp at this) (RvL.ext J _ _ N)
    rw[Array.toArray_toList]at this;refine this.mono ?_;rintro e T ⟨u,π',rfl,g1,g2,g3,_⟩;exact E _ _ π' (Rep.ext z.defers (RvL.ext J _ _ z.slots) g1 g2 g3) (J.trans g1)
   ·rename_i v H' hc;rw[fN]at h;cases h;have:=C _ _ _ _ hc out B w π vs.toList z.inv N;rw[Array.toArray_toList]at this;refine this.mono ?_;rintro e T ⟨u,π',rfl,g1,g2,g3⟩;exact E _ _ π' (Rep.ext z.defers z.slots g1 g2 g3) g1
   ·cases h
  ·cases h
 ·rename_i hw;rw[nO z.slots hw];simp only[Bool.false_eq_true,if_false];rw[fN]at h;cases h;exact E _ _ π (Rep.ext z.defers z.slots (Ext.refl _ _ _) z.inv rfl) (Ext.refl _ _ _)
 ·cases h
end
end Go.Eng

