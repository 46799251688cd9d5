import Derived.Test.YtglimpjlhfjgdaaGreatEng5Grds
set_option linter.all false
namespace Go.Eng
open Go Go.RowKit
variable[Dr]
theorem Ah{P:Program}{ρ:Operand->AV}{H H':List Blk}{nid:Nat}{o:Oper}(h:∀b∈qt H ρ o,H[b]?=H'[b]?):evalOp P ρ H nid o=evalOp P ρ H' nid o:=by
 have E:∀a:AV,(∀b∈dG a,H[b]?=H'[b]?)->cellAt H a=cellAt H' a:=by
  intro a M;cases a<;>simp only[cellAt];rw[M _ (by simp[dG])]
 have D:∀a:AV,(∀b∈dG a,H[b]?=H'[b]?)->nH H a=nH H' a:=by
  intro a M;cases a<;>simp only[nH];rw[M _ (by simp[dG])]
 have C:∀(n:Nat) (a:AV),(∀b∈dG a,H[b]?=H'[b]?)->jW H n a=jW H' n a:=by
  intro n a M;unfold jW;split<;>try rfl
  rw[M _ (by simp[dG])]
 have p:∀a:AV,(∀b∈dG a,H[b]?=H'[b]?)->ky H a=ky H' a:=by
  intro a M;cases a<;>simp only[ky];rw[M _ (by simp[dG])]
 unfold evalOp;unfold qt at h;cases S:o.op<;>simp only[S,wq,sf,yg,tE,kr,tS,oh,ps,lC,tW,vf,mO]at h ⊢
 case load t a=>
  simp only[x7,E _ h,D _ h]
 case store t a x=>
  simp only[yK];cases M:ρ a<;>simp only;rw[h _ (by simp[M,dG])]
 case slice t x O N mx=>
  cases mx with
  |some _=>rfl
  |none=>
   simp only;have:∀y O N,(∀b∈dG y,H[b]?=H'[b]?)->uN P H t y O N=uN P H' t y O N:=by
    intro y O N I;simp only[uN];cases P.underlying t with
    |none=>rfl
    |some d=>
     cases d<;>simp only;cases fF P _<;>cases y<;>simp only;rw[I _ (by simp[dG])]
   split
   ·rfl
   ·rw[this _ _ _ h]
 case makeFunc fn T cs=>cases fn<;>rfl
 case lookup t x U ok=>simp only[bW,p _ h]
 case mapUpdate t m k x=>simp only[bs,p _ h]
 case insert t m k x=>simp only[bs,p _ h]
 case mapEntry t m k=>simp only[mD,p _ h]
 case entryStore t m k x=>simp only[me,p _ h]
 case range t x=>simp only[nv,p _ h]
 case entry it=>
  have h1:rO H (ρ it)=rO H' (ρ it):=by
   unfold rO;split
   ·rename_i j heq;rw[h j (by rw[heq];simp[dG])]
   ·rfl
  simp only[jb,<-h1];cases N:rO H (ρ it)with
  |none=>rfl
  |some q=>obtain⟨m,n,seen⟩:=q;simp only;rw[h m (by simp[N])]
 case call c=>
  cases hc:c.callee<;>simp only;simp only[mU];split<;>try rfl
  ·rename_i x heq;have h1:∀b∈dG x,H[b]?=H'[b]?:=by
    intro b J;refine h b (List.mem_flatMap.2 ?_);have:x∈c.args.toList.map ρ:=by rw[heq];simp
    obtain⟨y,I,rfl⟩:=List.mem_map.1 this;exact⟨y,I,J⟩
   have:∀t,DA P H t x=DA P H' t x:=by
    intro t;unfold DA;split
    ·rw[h1 _ (by simp[dG])]
    ·rfl
   simp only[this]
  ·rename_i s x heq;have h1:∀b∈dG s,H[b]?=H'[b]?:=by
    intro b J;refine h b (List.mem_flatMap.2 ?_);have:s∈c.args.toList.map ρ:=by rw[heq];simp
    obtain⟨y,I,rfl⟩:=List.mem_map.1 this;exact⟨y,I,J⟩
   have h2:∀b∈dG x,H[b]?=H'[b]?:=by
    intro b J;refine h b (List.mem_flatMap.2 ?_);have:x∈c.args.toList.map ρ:=by rw[heq];simp
    obtain⟨y,I,rfl⟩:=List.mem_map.1 this;exact⟨y,I,J⟩
   have:∀n by_,jQ H nid n by_ s x=jQ H' nid n by_ s x:=by
    intro n by_;simp only[jQ,C _ _ h2];split
    ·rfl
    ·split
     ·rfl
     ·rfl
     ·rw[h1 _ (by simp[dG])]
     ·rw[h1 _ (by simp[dG])]
     ·rfl
   simp only[this]
  ·rename_i s x heq;have h1:∀b∈dG s,H[b]?=H'[b]?:=by
    intro b J;refine h b (List.mem_flatMap.2 ?_);have:s∈c.args.toList.map ρ:=by rw[heq];simp
    obtain⟨y,I,rfl⟩:=List.mem_map.1 this;exact⟨y,I,J⟩
   have h2:∀b∈dG x,H[b]?=H'[b]?:=by
    intro b J;refine h b (List.mem_flatMap.2 ?_);have:x∈c.args.toList.map ρ:=by rw[heq];simp
    obtain⟨y,I,rfl⟩:=List.mem_map.1 this;exact⟨y,I,J⟩
   have:∀n,xk H n s x=xk H' n s x:=by
    intro n;simp only[xk,C _ _ h2];split
    ·rfl
    ·split
     ·rw[h1 _ (by simp[dG])]
     ·rfl
   simp only[this]
  ·rename_i d heq;have h1:∀b∈dG d,H[b]?=H'[b]?:=by
    intro b J;refine h b (List.mem_flatMap.2 ?_);have:d∈c.args.toList.map ρ:=by rw[heq];simp
    obtain⟨y,I,rfl⟩:=List.mem_map.1 this;exact⟨y,I,J⟩
   have:∀n z,tx H n z d=tx H' n z d:=by
    intro n z;simp only[tx];split
    ·rw[h1 _ (by simp[dG])]
    ·rfl
   simp only[this]
theorem xa{P:Program}{ρ ρ':Operand->AV}{H:List Blk}{nid:Nat}{o:Oper}(h:∀x∈o.op.operands.toList,ρ x=ρ' x):evalOp P ρ H nid o=evalOp P ρ' H nid o:=by
 have j:∀(l:List (Nat×Operand)),(∀x∈(l.map (·.2)),ρ x=ρ' x)->(l.map fun p=>(p.1,ρ p.2))=l.map fun p=>(p.1,ρ' p.2):=by
  intro l I;apply List.map_congr_left;intro p hp;rw[I _ (List.mem_map_of_mem hp)]
 have q:∀(l:List Operand),(∀x∈l,ρ x=ρ' x)->l.map ρ=l.map ρ':=fun l I=>List.map_congr_left I
 unfold evalOp;cases J:o.op<;>simp only[J,Op.operands,wq,sf,yg,tE,kr,tS,oh,ps,lC,tW,vf,mO]at h ⊢
 case move x=>rw[h x (by simp)]
 case «assign» x=>rw[h x (by simp)]
 case pick c a b=>rw[h c (by simp),h a (by simp),h b (by simp)]
 case box t x=>rw[h x (by simp)]
 case build t N=>rw[j _ (by simpa using h)]
 case buildSlice t n N=>rw[j _ (by simpa using h)]
 case load t a=>rw[h a (by simp)]
 case store t a x=>rw[h a (by simp),h x (by simp)]
 case nilCheck x=>rw[h x (by simp)]
 case binOp op t x y u=>rw[h x (by simp),h y (by simp)]
 case unOp op t x=>rw[h x (by simp)]
 case convert s d x=>rw[h x (by simp)]
 case makeFunc fn O cs=>
  cases fn<;>simp only;rw[q O.toList (fun x z=>h x (by simp at z ⊢;exact .inl z)),q cs.toList (fun x z=>h x (by simp at z ⊢;exact .inr z))]
 case makeSlice t l c=>rw[h l (by simp),h c (by simp)]
 case slice t x D E mx=>
  cases mx with
  |some _=>rfl
  |none=>
   have e1:ρ x=ρ' x:=h x (by simp);have e2:D.map ρ=D.map ρ':=by cases D with|none=>rfl|some y=>simp[h y (by simp)]
   have S:E.map ρ=E.map ρ':=by cases E with|none=>rfl|some y=>simp[h y (by simp)]
   simp only[e1,e2,S];cases D<;>cases E<;>simp_all
 case fieldAddr s x f=>rw[h x (by simp)]
 case field s x f=>rw[h x (by simp)]
 case indexAddr t x C=>rw[h x (by simp),h C (by simp)]
 case index t x C=>rw[h x (by simp),h C (by simp)]
 case extract t C=>rw[h t (by simp)]
 case makeMap t r=>
  have e:r.map ρ=r.map ρ':=by cases r with|none=>rfl|some y=>simp[h y (by simp)]
  rw[e]
 case lookup t x C ok=>rw[h x (by simp),h C (by simp)]
 case mapUpdate t m k x=>rw[h m (by simp),h k (by simp),h x (by simp)]
 case insert t m k x=>rw[h m (by simp),h k (by simp),h x (by simp)]
 case mapEntry t m k=>rw[h m (by simp),h k (by simp)]
 case range t x=>rw[h x (by simp)]
 case entry it=>rw[h it (by simp)]
 case entryStore t m k x=>rw[h m (by simp),h k (by simp),h x (by simp)]
 case call c=>
  have M:c.args.toList.map ρ=c.args.toList.map ρ':=q _ fun x z=>h x (by simp only[Call.operands,Array.toList_append,List.mem_append];exact .inr z)
  cases hc:c.callee<;>simp only
  case value f=>
   have:ρ f=ρ' f:=h f (by simp[Call.operands,hc]);rw[this,M]
  case builtin b=>rw[M]
end Go.Eng


namespace Go.Eng
open Go Go.RowKit
variable[Dr]
structure St where
 slots:List AV
 heap:List Blk
inductive wJ where
 |loc (v:AV) (ws:List (Nat×Blk)) (rd:List Nat) (n:Nat)
 |whole (v:AV) (H:List Blk)
abbrev fG:=FuncId->List AV->List Blk->Option wJ
noncomputable def tQ(l:List AV):Nat->AV:=
 List.rec (motive:=fun _=>Nat->AV) (fun _=>.unk) (fun x _ j n=>Nat.rec (motive:=fun _=>AV) x (fun m _=>j m) n) l
theorem sm(l:List AV):∀n:Nat,tQ l n=l.getD n .unk:=by
 induction l with
 |nil=>intro n;rfl
 |cons x l j=>intro n;cases n with
  |zero=>rfl
  |succ n=>exact(j n).trans (by simp)
noncomputable def Hl{α:Type}(l:List AV):Nat->AV->(List AV->α)->α:=
 List.rec (motive:=fun _=>Nat->AV->(List AV->α)->α) (fun _ _ k=>k []) (fun x xs j n v k=>Nat.rec (motive:=fun _=>α) (k (v::xs)) (fun m _=>j m v (fun r=>k (x::r))) n) l
theorem Eo{α:Type}(l:List AV):∀(n:Nat) (v:AV) (k:List AV->α),Hl l n v k=k (l.set n v):=by
 induction l with
 |nil=>intro n v k;rfl
 |cons x l j=>intro n v k;cases n with
  |zero=>rfl
  |succ n=>exact j n v _
noncomputable def evA(slots:List AV):Operand->AV
 |.tmp t=>tQ slots t
 |.const v=>.at v
 |.global g=>.at (.pointer (some ⟨g,0,none⟩))
 |.func f=>.fn f [] []
def gX(slots:List AV)(dst:Option Tmp)(v:AV):List AV:=match dst with|some d=>slots.set d v|none=>slots
noncomputable def CA{α:Type}(slots:List AV)(dst:Option Tmp)(v:AV)(k:List AV->α):α:=match dst with|some d=>Hl slots d v k|none=>k slots
theorem fg{α:Type}(slots:List AV)(dst:Option Tmp)(v:AV)(k:List AV->α):CA slots dst v k=k (gX slots dst v):=by
 cases dst with
 |none=>rfl
 |some d=>exact Eo slots d v k
noncomputable def dk(ops:List Oper)(o:Oper)(slots:List AV):Option Bool:=
 match o.guard with
 |none=>some true
 |some (j,want)=>match ops[j]? with
  |some oj=>(match oj.dst with|some d=>(match tQ slots d with|.at (.bool b)=>some (b==want)|.at (.tuple _)=>some false|_=>none)|none=>none)
  |none=>none
def iT(n:Nat):List Blk:=List.replicate n .dead
structure Ent where
 o:Oper
 nid:Nat
 v:AV
 ws:List (Nat×Blk)
 rd:List Nat
 n:Nat
noncomputable def kG(P:Program)(call:fG)(ops:List Oper)(o:Oper)(st:St):Option (St×Option Ent):=
 match dk ops o st.slots with
 |some true=>(match evalOp P (evA st.slots) st.heap st.heap.length o with
  |some (.pure v)=>CA st.slots o.dst v fun s=>some (⟨s,st.heap⟩,some ⟨o,st.heap.length,v,[],qt st.heap (evA st.slots) o,0⟩)
  |some (.eff v ws)=>CA st.slots o.dst v fun s=>some (⟨s,aN st.heap ws⟩,some ⟨o,st.heap.length,v,ws,qt st.heap (evA st.slots) o,0⟩)
  |some (.call f args)=>(match call f args st.heap with
   |some (.loc v ws rd n)=>CA st.slots o.dst v fun s=>some (⟨s,aN (st.heap++iT n) ws⟩,some ⟨o,st.heap.length,v,ws,rd,n⟩)
   |some (.whole v H)=>CA st.slots o.dst v fun s=>some (⟨s,H⟩,none)
   |none=>none)
  |none=>none)
 |some false=>CA st.slots o.dst (.at undef) fun s=>some (⟨s,st.heap⟩,some ⟨o,st.heap.length,.at undef,[],[],0⟩)
 |none=>none
noncomputable def ij(P:Program)(call:fG)(ops:List Oper):List Oper->St->Option St
 |[],st=>some st
 |o::rest,st=>match kG P call ops o st with
  |some (st',_)=>ij P call ops rest st'
  |none=>none
def nq(len:Nat)(e:Ent):Bool:=
 (e.rd.all fun b=>decide (b<len))&&
 match e.n with
 |0=>e.ws.all fun p=>decide (p.1<=len)
 |n+1=>(e.ws.all fun p=>decide (p.1<len+(n+1)))&&(List.range (n+1)).all fun j=>(e.ws.map (·.1)).contains (len+j)
noncomputable def gk(P:Program)(call:fG)(ops:List Oper):List Oper->St->Option (St×List Ent)
 |[],st=>some (st,[])
 |o::rest,st=>match kG P call ops o st with
  |some (st',some e)=>(match nq st.heap.length e,gk P call ops rest st' with|true,some (j,es)=>some (j,e::es)|_,_=>none)
  |_=>none
def Bh(l:List Operand):List Tmp:=l.filterMap fun|.tmp t=>some t|_=>none
def eG(ops:List Oper)(o:Oper):List Tmp:=
 Bh o.op.operands.toList++(match o.guard with|some (j,_)=>(match ops[j]? with|some oj=>oj.dst.toList|none=>[])|none=>[])
def wh(acc:List Nat)(o:Oper):Nat:=o.after.toList.foldl (fun s e=>if Region.binds .any e then s ||| (2^e.on ||| acc.getD e.on 0)else s) 0
def sU:List Nat->List Oper->List Nat
 |acc,[]=>acc
 |acc,o::rest=>sU (acc++[wh acc o]) rest
def tf(l k:List Nat):Bool:=l.all fun x=>!k.contains x
def zm(ops:List Oper)(a b:Ent):Bool:=
 let j:=a.o.dst.toList;let m:=b.o.dst.toList
 tf j (eG ops b.o)&&tf j m&&tf m (eG ops a.o)&&
 tf (a.ws.map (·.1)) b.rd&&tf (a.ws.map (·.1)) (b.ws.map (·.1))&&tf (b.ws.map (·.1)) a.rd
def sG(ops:List Oper)(a b:Ent)(j:List Ent):Bool:=
 match a.o.op,b.o.op with
 |.lookup t (.tmp m) (.tmp k) false,.mapEntry p (.tmp q) (.tmp k')=>
  Nat.beq t p&&Nat.beq m q&&Nat.beq k k'&&a.o.guard.isNone&&b.o.guard.isNone&&a.ws.isEmpty&&tf a.o.dst.toList (eG ops b.o)&&tf a.o.dst.toList b.o.dst.toList&&tf b.o.dst.toList (eG ops a.o)&&
  j.all fun c=>tf (c.ws.map (·.1)) a.rd&&!c.o.dst.toList.contains m&&!c.o.dst.toList.contains k
 |_,_=>false
def ry(ops:List Oper)(b:Ent)(m:Nat):List Ent->Nat->Bool
 |[],_=>true
 |a::es,i=>(m.testBit i||zm ops a b||sG ops a b es)&&(a.ws.all fun p=>decide (p.1<b.nid))&&ry ops b m es (i+1)
def oE(ops:List Oper)(m:List Nat)(all:List Ent):List Ent->Nat->Bool
 |[],_=>true
 |b::es,j=>ry ops b (m.getD j 0) (all.take j) 0&&oE ops m all es (j+1)
def qz:List Oper->Nat->Bool
 |[],_=>true
 |o::rest,i=>o.after.toList.all (fun e=>!Region.binds .any e||decide (e.on<i))&&qz rest (i+1)
noncomputable def jY(P:Program)(call:fG)(ops:List Oper)(draw:Bool)(st:St):Option St:=
 match draw with
 |false=>ij P call ops ops st
 |true=>match gk P call ops ops st with
  |some (st',es)=>(match qz ops 0&&oE ops (sU [] ops) es es 0 with|true=>some st'|false=>none)
  |none=>none
inductive X where
 |normal
 |exit (id:Nat)
 |ret
def iter(f:St->Option (X×St)):Nat->St->Option (X×St)
 |0,_=>none
 |n+1,st=>match f st with
  |some (.normal,st')=>iter f n st'
  |r=>r
noncomputable def evalCode(P:Program)(call:fG)(n:Nat):Code->St->Option (X×St)
 |.skip,st=>some (.normal,st)
 |.label _,st=>some (.normal,st)
 |.region _ ops draw,st=>(match jY P call ops.toList draw st with|some st'=>some (.normal,st')|none=>none)
 |.seq a b,st=>(match evalCode P call n a st with|some (.normal,st')=>evalCode P call n b st'|r=>r)
 |.cond c a b,st=>(match evA st.slots c with|.at (.bool true)=>evalCode P call n a st|.at (.bool false)=>evalCode P call n b st|_=>none)
 |.block id c,st=>(match evalCode P call n c st with|some (.exit j,st')=>(match decide (j=id)with|true=>some (.normal,st')|false=>some (.exit j,st'))|r=>r)
 |.loop c,st=>iter (evalCode P call n c) n st
 |.exit id,st=>some (.exit id,st)
 |.ret,st=>some (.ret,st)
 |_,_=>none
noncomputable def wm(P:Program)(st:St):ResultVar->Option AV
 |.tmp t=>some (tQ st.slots t)
 |.cell a t=>x7 P st.heap t (tQ st.slots a)
noncomputable def fc(P:Program)(st:St):List ResultVar->Option (List AV)
 |[]=>some []
 |r::rs=>match wm P st r,fc P st rs with|some v,some vs=>some (v::vs)|_,_=>none
def lj:List AV->AV|[v]=>v|vs=>.tup vs
def tI(n:Nat):List AV:=List.replicate n .unk
def uK{α β:Type}(f:α->Option β):List α->Option (List β)
 |[]=>some []
 |x::xs=>match f x,uK f xs with|some y,some ys=>some (y::ys)|_,_=>none
def pv(H:List Blk)(ok:Nat->Bool):Nat->AV->Option AV
 |_,.unk=>some .unk
 |_,.at v=>some (.at v)
 |_,.sl nl cs len=>some (.sl nl cs len)
 |_,.pp cs off=>some (.pp cs off)
 |0,_=>none
 |n+1,.hs b off len es=>(match ok b,jW H es (.hs b off len es)with
  |true,some (cs,m)=>(match uK (pv H ok n) cs with|some j=>some (.sl true j m)|none=>none)
  |_,_=>none)
 |n+1,.hp b off=>(match ok b,H[b]? with
  |true,some (.own cs)=>(match uK (pv H ok n) cs with|some j=>some (.pp j off)|none=>none)
  |true,some (.fix cs)=>(match uK (pv H ok n) cs with|some j=>some (.pp j off)|none=>none)
  |_,_=>none)
 |_+1,.mp _=>none
 |_+1,.hc ..=>none
 |n+1,.agg cs=>(match uK (pv H ok n) cs with|some j=>some (.agg j)|none=>none)
 |n+1,.tup cs=>(match uK (pv H ok n) cs with|some j=>some (.tup j)|none=>none)
 |n+1,.fn f q cs=>(match uK (pv H ok n) q,uK (pv H ok n) cs with|some p,some j=>some (.fn f p j)|_,_=>none)
mutual
def qo:AV->Bool
 |.unk|.at _=>false
 |.agg cs=>qj cs
 |.tup cs=>qj cs
 |.fn _ j cs=>qj j||qj cs
 |_=>true
def qj:List AV->Bool
 |[]=>false
 |c::cs=>qo c||qj cs
end
mutual
def nt:AV->List Nat
 |.hs b _ _ _=>[b]
 |.hc b _ _ _ _=>[b]
 |.hp b _=>[b]
 |.mp b=>[b]
 |.agg cs=>dB cs
 |.tup cs=>dB cs
 |.fn _ j cs=>dB j++dB cs
 |_=>[]
def dB:List AV->List Nat
 |[]=>[]
 |c::cs=>nt c++dB cs
end
def Ee(G:List Blk)(ok:Nat->Bool)(ρ:Nat->Option Nat):Nat->AV->Option AV
 |n,.hs b off len es=>(match ρ b with|some c=>some (.hs c off len es)|none=>pv G ok n (.hs b off len es))
 |n,.hp b off=>(match ρ b with|some c=>some (.hp c off)|none=>pv G ok n (.hp b off))
 |n+1,.agg cs=>(match uK (Ee G ok ρ n) cs with|some j=>some (.agg j)|none=>none)
 |n+1,.tup cs=>(match uK (Ee G ok ρ n) cs with|some j=>some (.tup j)|none=>none)
 |n,x=>pv G ok n x
def C8(l:List Nat)(x:Nat):List Nat:=if l.contains x then l else l++[x]
def frz:RC->AV
 |.row len _ cs=>.sl true cs len
 |.av A=>A
def fzC:Blk->Option (List AV)
 |.own cs=>some cs
 |.rows rs=>some (rs.map frz)
 |_=>none
def eh(H:List Blk)(l:List Nat):List (Nat×Blk):=
 l.filterMap fun b:Nat=>match (H[b]?:Option Blk)with|some (.own cs)=>some (b,.fix cs)|some (.rows rs)=>some (b,.fix (rs.map frz))|_=>none
def findAt(l:List Nat)(x base:Nat):Option Nat:=match l with
 |[]=>none
 |y::ys=>if y=x then some base else findAt ys x (base+1)
def zk(G:List Blk)(ok:Nat->Bool)(n:Nat):List Nat->Option (List (List AV))
 |[]=>some []
 |b::m=>match G[b]? with
  |some (.own cs)=>(match uK (pv G ok n) cs,zk G ok n m with|some j,some l=>some (j::l)|_,_=>none)
  |_=>none
def zB(nid:Nat):List (List AV)->List (Nat×Blk)
 |[]=>[]
 |x::xs=>(nid,.own x)::zB (nid+1) xs
def Dy:Option Blk->Bool|some (.own _)=>true|_=>false
def Ba:List Nat->Bool
 |[]=>true
 |x::xs=>!xs.contains x&&Ba xs
def Dh(n:Nat)(l:List Nat)(H G:List Blk)(r:AV):Option wJ:=
 match qo r with
 |false=>some (.loc r [] l 0)
 |true=>
  let σ:=((nt r).filter fun b=>Dy G[b]?).foldl C8 [];match Ba σ,zk G (fun b=>!σ.contains b) n σ,Ee G (fun b=>!σ.contains b) (findAt σ · H.length) n r with
  |true,some new,some j=>some (.loc j (eh H l++zB H.length new) l new.length)
  |_,_,_=>none
end Go.Eng


namespace Go.Eng
open Go Go.RowKit
variable[Dr]
def kU(P:Program)(f:FuncId)(args:List AV)(H:List Blk):wJ->Prop
 |.loc v ws rd n=>∀H':List Blk,H.length+n<=H'.length->(∀b∈rd,b<H.length->H'[b]?=H[b]?)->∀(out:Nat->Prop) (B:Nat->Prop) (w:World) (π:List (Option PB)) (vs:List Value),
   Inv out B w π H'->(∀j,H.length<=j->j<H.length+n->∀q,π[j]?≠some (some q))->RvL w (aJ out π H') π args vs->
   Calls P f vs.toArray w fun e w'=>∃u π',e=.returned u/\Ext B w w' (aJ out π H') (aJ out π' (aN H' ws)) π π'/\Inv out B w' π' (aN H' ws)/\Rv w' (aJ out π' (aN H' ws)) π' v u/\
    ∀j,(∀b,(j,b)∉ws)->π'[j]?=π[j]?
 |.whole v H'=>∀(out:Nat->Prop) (B:Nat->Prop) (w:World) (π:List (Option PB)) (vs:List Value),Inv out B w π H->RvL w (aJ out π H) π args vs->
   Calls P f vs.toArray w fun e w'=>∃u π',e=.returned u/\Ext B w w' (aJ out π H) (aJ out π' H') π π'/\Inv out B w' π' H'/\Rv w' (aJ out π' H') π' v u
def ko(P:Program)(call:fG):Prop:=∀f args H r,call f args H=some r->kU P f args H r
structure Rep (out:Nat->Prop) (B:Nat->Prop) (w:World) (π:List (Option PB)) (st:St) (a:Act):Prop where
 defers:a.defers=[]
 slots:RvL w (aJ out π st.heap) π st.slots a.tmps.toList
 inv:Inv out B w π st.heap
section
variable{P:Program}{out:Nat->Prop}{B:Nat->Prop}{w:World}{π:List (Option PB)}
theorem kT{mu:Nat->Prop}{slots:List AV}{tmps:Array Value}(h:RvL w mu π slots tmps.toList)(t:Nat):Rv w mu π (tQ slots t) (tmps.getD t undef):=by
 rw[sm];cases hs:slots[t]? with
 |none=>simp[List.getD,hs,Rv]
 |some A=>
  obtain⟨v,h1,h2⟩:=RvL.get _ _ t A h hs;have e1:slots.getD t .unk=A:=by simp[List.getD,hs]
  have e2:tmps.getD t undef=v:=by
   rw[Array.getElem?_toList]at h1;rw[Array.getD_eq_getD_getElem?,h1];rfl
  rw[e1,e2];exact h2
theorem mz{mu:Nat->Prop}{slots:List AV}{a:Act}(h:RvL w mu π slots a.tmps.toList):∀x,Rv w mu π (evA slots x) (a.eval x)
 |.tmp t=>kT h t
 |.const _=>rfl
 |.global _=>rfl
 |.func _=>⟨#[],#[],rfl,rfl,rfl⟩
theorem mE{mu:Nat->Prop}{ops:Array Oper}{o:Oper}{slots:List AV}{a:Act}{b:Bool}(h:RvL w mu π slots a.tmps.toList)(hw:dk ops.toList o slots=some b):
  Region.wanted o (yielded ops a.tmps)=b:=by
 unfold dk at hw;unfold Region.wanted;split at hw
 ·rename_i z;cases hw;simp[z]
 ·rename_i j want z;split at hw
  ·rename_i oj q;split at hw
   ·rename_i d C;split at hw
    ·rename_i c hc;cases hw;have hs:=kT h d;rw[hc]at hs;have m:a.tmps.getD d undef=.bool c:=hs;have D:a.tmps[d]?=some (.bool c):=by
      rw[Array.getD_eq_getD_getElem?]at m;cases p:a.tmps[d]? with
      |none=>rw[p]at m;simp[undef]at m
      |some x=>rw[p]at m;simpa using m
     have E:yielded ops a.tmps j=some c:=by
      rw[Array.getElem?_toList]at q;simp[yielded,q,C,D]
     simp[z,E]
    ·rename_i vs hc;cases hw;have hs:=kT h d;rw[hc]at hs;have m:a.tmps.getD d undef=.tuple vs:=hs;have E:yielded ops a.tmps j=none:=by
      rw[Array.getElem?_toList]at q;rw[Array.getD_eq_getD_getElem?]at m;cases p:a.tmps[d]? with
      |none=>simp[yielded,q,C,p]
      |some x=>rw[p]at m;simp only[Option.getD_some]at m;subst m;simp[yielded,q,C,p]
     simp[z,E]
    ·cases hw
   ·cases hw
  ·cases hw
theorem uP{mu:Nat->Prop}{slots:List AV}{a:Act}{dst:Option Tmp}{A:AV}{v:Value}(h:RvL w mu π slots a.tmps.toList)(j:Rv w mu π A v):RvL w mu π (gX slots dst A) (a.put dst v).tmps.toList:=by
 cases dst with
 |none=>exact h
 |some d=>simp only[gX,Act.put,Array.toList_setIfInBounds];exact RvL.set _ _ d A v h j
theorem put_defers{a:Act}{dst:Option Tmp}{v:Value}:(a.put dst v).defers=a.defers:=by cases dst<;>rfl
theorem Inv.extend{H:List Blk}(z:Inv out B w π H)(n:Nat):
  Inv out B w (π++List.replicate n none) (H++iT n)/\Ext B w w (aJ out π H) (aJ out (π++List.replicate n none) (H++iT n)) π (π++List.replicate n none):=by
 have U:=z.len;have D:∀{i:Nat} {x:Blk},(H++iT n)[i]?=some x->H[i]?=some x\/(H.length<=i/\x=.dead):=by
  intro i x h;by_cases E:i<H.length
  ·rw[List.getElem?_append_left E]at h;exact .inl h
  ·rw[List.getElem?_append_right (by omega)]at h;refine .inr ⟨by omega,?_⟩;have:=List.mem_of_getElem? h;simp[iT]at this;exact this.2
 have gπ:∀{i:Nat} {p:PB},(π++List.replicate n none)[i]?=some (some p)->π[i]?=some (some p):=by
  intro i p h;by_cases E:i<π.length
  ·rwa[List.getElem?_append_left E]at h
  ·rw[List.getElem?_append_right (by omega)]at h;have:=List.mem_of_getElem? h;simp at this
 have N:Ext B w w (aJ out π H) (aJ out (π++List.replicate n none) (H++iT n)) π (π++List.replicate n none):=by
  refine⟨fun _ _=>rfl,Nat.le_refl _,fun b _ O=>⟨rfl,?_⟩,fun i p h=>?_,rfl,rfl,rfl,fun _=>Nat.le_refl _⟩
  ·rintro(Y|⟨i,x,p,h1,h2,C,I⟩)
   ·exact O (.inl Y)
   ·rcases D h1 with m|⟨_,rfl⟩
    ·exact O (.inr ⟨i,x,p,m,h2,gπ C,I⟩)
    ·simp[Blk.gI]at h2
  ·rw[List.getElem?_append_left (aH h)];exact h
 refine⟨⟨by simp[U,iT],z.bound,z.out_lt,?_,?_,?_⟩,N⟩
 ·intro i x p b h1 h2 C;rcases D h1 with m|⟨_,rfl⟩
  ·exact z.baseO i x p b m (gπ h2) C
  ·exact C.elim
 ·intro i x p h1 h2;rcases D h1 with m|⟨_,rfl⟩
  ·exact eP.ext N (fun _ _=>rfl) (z.ok i x p m (gπ h2))
  ·trivial
 ·intro i j x y p q b J h1 h2 C I S Z T;rcases D h1 with m|⟨_,rfl⟩
  ·rcases D h2 with M|⟨_,rfl⟩
   ·exact z.sepO i j x y p q b J m M (gπ C) (gπ I) S Z T
   ·exact T.elim
  ·simp[Blk.gI]at S
theorem rY{H:List Blk}(j:Inv out B w π H):∀q,π[H.length]?≠some (some q):=by
 intro q h;have:=aH h;have:=j.len;omega
theorem Rep.ext{w':World}{π':List (Option PB)}{H H':List Blk}{slots:List AV}{a:Act}(j:a.defers=[])(hs:RvL w (aJ out π H) π slots a.tmps.toList)(m:Ext B w w' (aJ out π H) (aJ out π' H') π π')(p:Inv out B w' π' H')
  {dst:Option Tmp} {A:AV} {v:Value} (q:Rv w' (aJ out π' H') π' A v):Rep out B w' π' ⟨gX slots dst A,H'⟩ (a.put dst v):=
 ⟨by rw[put_defers];exact j,uP (RvL.ext m _ _ hs) q,p⟩
theorem zt(z:zl P){call:fG}(p:ko P call){ops:Array Oper}{o:Oper}{st st':St}{U:Option Ent}{a:Act}(m:Rep out B w π st a)(h:kG P call ops.toList o st=some (st',U))
  {K:Act->World->Prop} {Q:Exit->Act->World->Prop}
  (C:∀a' w' π',Rep out B w' π' st' a'->Ext B w w' (aJ out π st.heap) (aJ out π' st'.heap) π π'->K a' w'):
  if Region.wanted o (yielded ops a.tmps)then o.wp P a w K Q\/(o.asks P a w/\LetsOut Q)else K (a.put o.dst undef) w:=by
 unfold kG at h;split at h
 ·rename_i hw;rw[if_pos (mE m.slots hw)];refine .inl ?_;unfold Oper.wp;split at h
  ·rename_i v I;rw[fg]at h;cases h;obtain⟨Y,u,h1,h2,D⟩:=ks z m.inv (Nat.le_refl _) (rY m.inv) (mz m.slots) I;rw[h1];rcases h2 with rfl|⟨rfl,rfl⟩
   ·exact C _ _ π (Rep.ext m.defers m.slots (Ext.refl _ _ _) m.inv D) (Ext.refl _ _ _)
   ·exact C _ _ π (Rep.ext m.defers m.slots (Ext.refl _ _ _) m.inv D) (Ext.refl _ _ _)
  ·rename_i v ws I;rw[fg]at h;cases h;obtain⟨Y,u,w',π',h1,h2,D,O,S,_⟩:=ks z m.inv (Nat.le_refl _) (rY m.inv) (mz m.slots) I;rw[h1];rcases h2 with rfl|⟨rfl,rfl⟩
   ·exact C _ _ π' (Rep.ext m.defers m.slots D O S) D
   ·exact C _ _ π' (Rep.ext m.defers m.slots D O S) D
  ·rename_i f args I;obtain⟨vs,h1,h2⟩:=ks z m.inv (Nat.le_refl _) (rY m.inv) (mz m.slots) I;rw[h1];simp only[Oper.upon];split at h
   ·rename_i v ws rd n hc;rw[fg]at h;cases h;obtain⟨J,E⟩:=m.inv.extend n;have Z:=m.inv.len;have:=p _ _ _ _ hc (st.heap++iT n) (by simp[iT]) (fun b _ M=>by rw[List.getElem?_append_left M]) out B w (π++List.replicate n none) vs.toList J (fun j h1 _ q T=>by
          rw[List.getElem?_append_right (by omega)]at T;have:=List.mem_of_getElem? T;simp at this) (RvL.ext E _ _ h2)
    rw[Array.toArray_toList]at this;refine this.mono ?_;rintro e N ⟨u,π',rfl,g1,g2,g3,_⟩;exact C _ _ π' (Rep.ext m.defers (RvL.ext E _ _ m.slots) g1 g2 g3) (E.trans g1)
   ·rename_i v H' hc;rw[fg]at h;cases h;have:=p _ _ _ _ hc out B w π vs.toList m.inv h2;rw[Array.toArray_toList]at this;refine this.mono ?_;rintro e N ⟨u,π',rfl,g1,g2,g3⟩;exact C _ _ π' (Rep.ext m.defers m.slots g1 g2 g3) g1
   ·cases h
  ·cases h
 ·rename_i hw;rw[mE m.slots hw];simp only[Bool.false_eq_true,if_false];rw[fg]at h;cases h;exact C _ _ π (Rep.ext m.defers m.slots (Ext.refl _ _ _) m.inv rfl) (Ext.refl _ _ _)
 ·cases h
end
end Go.Eng

