import Derived.Test.YtglimpjlhfjgdaaGreatEng5Slds
set_option linter.all false
namespace Go.Eng
open Go Go.RowKit
variable[Dr]
theorem Ba{P:Program}{ρ:Operand->AV}{H H':List Blk}{nid:Nat}{o:Oper}(h:∀b∈oJ H ρ o,H[b]?=H'[b]?):evalOp P ρ H nid o=evalOp P ρ H' nid o:=by
 have E:∀a:AV,(∀b∈dc a,H[b]?=H'[b]?)->cellAt H a=cellAt H' a:=by
  intro a M;cases a<;>simp only[cellAt];rw[M _ (by simp[dc])]
 have D:∀a:AV,(∀b∈dc a,H[b]?=H'[b]?)->mi H a=mi H' a:=by
  intro a M;cases a<;>simp only[mi];rw[M _ (by simp[dc])]
 have C:∀(n:Nat) (a:AV),(∀b∈dc a,H[b]?=H'[b]?)->gC H n a=gC H' n a:=by
  intro n a M;unfold gC;split<;>try rfl
  rw[M _ (by simp[dc])]
 have p:∀a:AV,(∀b∈dc a,H[b]?=H'[b]?)->jl H a=jl H' a:=by
  intro a M;cases a<;>simp only[jl];rw[M _ (by simp[dc])]
 unfold evalOp;unfold oJ at h;cases O:o.op<;>simp only[O,w6,rh,yA,th,je,tE,mF,od,jL,tH,uA,lq]at h ⊢
 case load t a=>
  simp only[yI,E _ h,D _ h]
 case store t a x=>
  simp only[zx];cases M:ρ a<;>simp only;rw[h _ (by simp[M,dc])]
 case slice t x N hi mx=>
  cases mx with
  |some _=>rfl
  |none=>
   simp only;have:∀y N hi,(∀b∈dc y,H[b]?=H'[b]?)->ug P H t y N hi=ug P H' t y N hi:=by
    intro y N hi I;simp only[ug];cases P.underlying t with
    |none=>rfl
    |some d=>
     cases d<;>simp only;cases eG P _<;>cases y<;>simp only;rw[I _ (by simp[dc])]
   split
   ·rfl
   ·rw[this _ _ _ h]
 case makeFunc fn T cs=>cases fn<;>rfl
 case lookup t x U ok=>simp only[cI,p _ h]
 case mapUpdate t m k x=>simp only[cn,p _ h]
 case insert t m k x=>simp only[cn,p _ h]
 case mapEntry t m k=>simp only[kO,p _ h]
 case entryStore t m k x=>simp only[jU,p _ h]
 case range t x=>simp only[kH,p _ h]
 case entry it=>
  have h1:qe H (ρ it)=qe H' (ρ it):=by
   unfold qe;split
   ·rename_i j heq;rw[h j (by rw[heq];simp[dc])]
   ·rfl
  simp only[gr,<-h1];cases hi:qe H (ρ it)with
  |none=>rfl
  |some q=>obtain⟨m,n,seen⟩:=q;simp only;rw[h m (by simp[hi])]
 case call c=>
  cases hc:c.callee<;>simp only;simp only[ln];split<;>try rfl
  ·rename_i x heq;have h1:∀b∈dc x,H[b]?=H'[b]?:=by
    intro b J;refine h b (List.mem_flatMap.2 ?_);have:x∈c.args.toList.map ρ:=by rw[heq];simp
    obtain⟨y,I,rfl⟩:=List.mem_map.1 this;exact⟨y,I,J⟩
   have:∀t,F6 P H t x=F6 P H' t x:=by
    intro t;unfold F6;split
    ·rw[h1 _ (by simp[dc])]
    ·rfl
   simp only[this]
  ·rename_i s x heq;have h1:∀b∈dc s,H[b]?=H'[b]?:=by
    intro b J;refine h b (List.mem_flatMap.2 ?_);have:s∈c.args.toList.map ρ:=by rw[heq];simp
    obtain⟨y,I,rfl⟩:=List.mem_map.1 this;exact⟨y,I,J⟩
   have h2:∀b∈dc x,H[b]?=H'[b]?:=by
    intro b J;refine h b (List.mem_flatMap.2 ?_);have:x∈c.args.toList.map ρ:=by rw[heq];simp
    obtain⟨y,I,rfl⟩:=List.mem_map.1 this;exact⟨y,I,J⟩
   have:∀n by_,iM H nid n by_ s x=iM H' nid n by_ s x:=by
    intro n by_;simp only[iM,C _ _ h2];split
    ·rfl
    ·split
     ·rfl
     ·rfl
     ·rw[h1 _ (by simp[dc])]
     ·rw[h1 _ (by simp[dc])]
     ·rfl
   simp only[this]
  ·rename_i s x heq;have h1:∀b∈dc s,H[b]?=H'[b]?:=by
    intro b J;refine h b (List.mem_flatMap.2 ?_);have:s∈c.args.toList.map ρ:=by rw[heq];simp
    obtain⟨y,I,rfl⟩:=List.mem_map.1 this;exact⟨y,I,J⟩
   have h2:∀b∈dc x,H[b]?=H'[b]?:=by
    intro b J;refine h b (List.mem_flatMap.2 ?_);have:x∈c.args.toList.map ρ:=by rw[heq];simp
    obtain⟨y,I,rfl⟩:=List.mem_map.1 this;exact⟨y,I,J⟩
   have:∀n,w9 H n s x=w9 H' n s x:=by
    intro n;simp only[w9,C _ _ h2];split
    ·rfl
    ·split
     ·rw[h1 _ (by simp[dc])]
     ·rfl
   simp only[this]
  ·rename_i d heq;have h1:∀b∈dc d,H[b]?=H'[b]?:=by
    intro b J;refine h b (List.mem_flatMap.2 ?_);have:d∈c.args.toList.map ρ:=by rw[heq];simp
    obtain⟨y,I,rfl⟩:=List.mem_map.1 this;exact⟨y,I,J⟩
   have:∀n z,rP H n z d=rP H' n z d:=by
    intro n z;simp only[rP];split
    ·rw[h1 _ (by simp[dc])]
    ·rfl
   simp only[this]
theorem vZ{P:Program}{ρ ρ':Operand->AV}{H:List Blk}{nid:Nat}{o:Oper}(h:∀x∈o.op.operands.toList,ρ x=ρ' x):evalOp P ρ H nid o=evalOp P ρ' H nid o:=by
 have j:∀(l:List (Nat×Operand)),(∀x∈(l.map (·.2)),ρ x=ρ' x)->(l.map fun p=>(p.1,ρ p.2))=l.map fun p=>(p.1,ρ' p.2):=by
  intro l E;apply List.map_congr_left;intro p hp;rw[E _ (List.mem_map_of_mem hp)]
 have q:∀(l:List Operand),(∀x∈l,ρ x=ρ' x)->l.map ρ=l.map ρ':=fun l E=>List.map_congr_left E
 unfold evalOp;cases I:o.op<;>simp only[I,Op.operands,w6,rh,yA,th,je,tE,mF,od,jL,tH,uA,lq]at h ⊢
 case move x=>rw[h x (by simp)]
 case «assign» x=>rw[h x (by simp)]
 case pick c a b=>rw[h c (by simp),h a (by simp),h b (by simp)]
 case box t x=>rw[h x (by simp)]
 case build t ps=>rw[j _ (by simpa using h)]
 case buildSlice t n ps=>rw[j _ (by simpa using h)]
 case load t a=>rw[h a (by simp)]
 case store t a x=>rw[h a (by simp),h x (by simp)]
 case nilCheck x=>rw[h x (by simp)]
 case binOp op t x y u=>rw[h x (by simp),h y (by simp)]
 case unOp op t x=>rw[h x (by simp)]
 case convert s d x=>rw[h x (by simp)]
 case makeFunc fn M cs=>
  cases fn<;>simp only;rw[q M.toList (fun x z=>h x (by simp at z ⊢;exact .inl z)),q cs.toList (fun x z=>h x (by simp at z ⊢;exact .inr z))]
 case makeSlice t l c=>rw[h l (by simp),h c (by simp)]
 case slice t x D hi mx=>
  cases mx with
  |some _=>rfl
  |none=>
   have e1:ρ x=ρ' x:=h x (by simp);have e2:D.map ρ=D.map ρ':=by cases D with|none=>rfl|some y=>simp[h y (by simp)]
   have N:hi.map ρ=hi.map ρ':=by cases hi with|none=>rfl|some y=>simp[h y (by simp)]
   simp only[e1,e2,N];cases D<;>cases hi<;>simp_all
 case fieldAddr s x f=>rw[h x (by simp)]
 case field s x f=>rw[h x (by simp)]
 case indexAddr t x C=>rw[h x (by simp),h C (by simp)]
 case index t x C=>rw[h x (by simp),h C (by simp)]
 case extract t C=>rw[h t (by simp)]
 case makeMap t r=>
  have e:r.map ρ=r.map ρ':=by cases r with|none=>rfl|some y=>simp[h y (by simp)]
  rw[e]
 case lookup t x C ok=>rw[h x (by simp),h C (by simp)]
 case mapUpdate t m k x=>rw[h m (by simp),h k (by simp),h x (by simp)]
 case insert t m k x=>rw[h m (by simp),h k (by simp),h x (by simp)]
 case mapEntry t m k=>rw[h m (by simp),h k (by simp)]
 case range t x=>rw[h x (by simp)]
 case entry it=>rw[h it (by simp)]
 case entryStore t m k x=>rw[h m (by simp),h k (by simp),h x (by simp)]
 case call c=>
  have J:c.args.toList.map ρ=c.args.toList.map ρ':=q _ fun x z=>h x (by simp only[Call.operands,Array.toList_append,List.mem_append];exact .inr z)
  cases hc:c.callee<;>simp only
  case value f=>
   have:ρ f=ρ' f:=h f (by simp[Call.operands,hc]);rw[this,J]
  case builtin b=>rw[J]
end Go.Eng


namespace Go.Eng
open Go Go.RowKit
variable[Dr]
structure St where
 slots:List AV
 heap:List Blk
inductive uf where
 |loc (v:AV) (ws:List (Nat×Blk)) (rd:List Nat) (n:Nat)
 |whole (v:AV) (H:List Blk)
abbrev dw:=FuncId->List AV->List Blk->Option uf
noncomputable def uv(l:List AV):Nat->AV:=
 List.rec (motive:=fun _=>Nat->AV) (fun _=>.unk) (fun x _ j n=>Nat.rec (motive:=fun _=>AV) x (fun m _=>j m) n) l
theorem tT(l:List AV):∀n:Nat,uv l n=l.getD n .unk:=by
 induction l with
 |nil=>intro n;rfl
 |cons x l j=>intro n;cases n with
  |zero=>rfl
  |succ n=>exact(j n).trans (by simp)
noncomputable def Kh{α:Type}(l:List AV):Nat->AV->(List AV->α)->α:=
 List.rec (motive:=fun _=>Nat->AV->(List AV->α)->α) (fun _ _ k=>k []) (fun x xs j n v k=>Nat.rec (motive:=fun _=>α) (k (v::xs)) (fun m _=>j m v (fun r=>k (x::r))) n) l
theorem Hl{α:Type}(l:List AV):∀(n:Nat) (v:AV) (k:List AV->α),Kh l n v k=k (l.set n v):=by
 induction l with
 |nil=>intro n v k;rfl
 |cons x l j=>intro n v k;cases n with
  |zero=>rfl
  |succ n=>exact j n v _
noncomputable def evA(slots:List AV):Operand->AV
 |.tmp t=>uv slots t
 |.const v=>.at v
 |.global g=>.at (.pointer (some ⟨g,0,none⟩))
 |.func f=>.fn f [] []
def fQ(slots:List AV)(dst:Option Tmp)(v:AV):List AV:=match dst with|some d=>slots.set d v|none=>slots
noncomputable def Ee{α:Type}(slots:List AV)(dst:Option Tmp)(v:AV)(k:List AV->α):α:=match dst with|some d=>Kh slots d v k|none=>k slots
theorem dS{α:Type}(slots:List AV)(dst:Option Tmp)(v:AV)(k:List AV->α):Ee slots dst v k=k (fQ slots dst v):=by
 cases dst with
 |none=>rfl
 |some d=>exact Hl slots d v k
noncomputable def cH(ops:List Oper)(o:Oper)(slots:List AV):Option Bool:=
 match o.guard with
 |none=>some true
 |some (j,want)=>match ops[j]? with
  |some oj=>(match oj.dst with|some d=>(match uv slots d with|.at (.bool b)=>some (b==want)|.at (.tuple _)=>some false|_=>none)|none=>none)
  |none=>none
def gK(n:Nat):List Blk:=List.replicate n .dead
structure Ent where
 o:Oper
 nid:Nat
 v:AV
 ws:List (Nat×Blk)
 rd:List Nat
 n:Nat
noncomputable def ju(P:Program)(call:dw)(ops:List Oper)(o:Oper)(st:St):Option (St×Option Ent):=
 match cH ops o st.slots with
 |some true=>(match evalOp P (evA st.slots) st.heap st.heap.length o with
  |some (.pure v)=>Ee st.slots o.dst v fun s=>some (⟨s,st.heap⟩,some ⟨o,st.heap.length,v,[],oJ st.heap (evA st.slots) o,0⟩)
  |some (.eff v ws)=>Ee st.slots o.dst v fun s=>some (⟨s,aN st.heap ws⟩,some ⟨o,st.heap.length,v,ws,oJ st.heap (evA st.slots) o,0⟩)
  |some (.call f args)=>(match call f args st.heap with
   |some (.loc v ws rd n)=>Ee st.slots o.dst v fun s=>some (⟨s,aN (st.heap++gK n) ws⟩,some ⟨o,st.heap.length,v,ws,rd,n⟩)
   |some (.whole v H)=>Ee st.slots o.dst v fun s=>some (⟨s,H⟩,none)
   |none=>none)
  |none=>none)
 |some false=>Ee st.slots o.dst (.at undef) fun s=>some (⟨s,st.heap⟩,some ⟨o,st.heap.length,.at undef,[],[],0⟩)
 |none=>none
noncomputable def gj(P:Program)(call:dw)(ops:List Oper):List Oper->St->Option St
 |[],st=>some st
 |o::rest,st=>match ju P call ops o st with
  |some (st',_)=>gj P call ops rest st'
  |none=>none
def lT(len:Nat)(e:Ent):Bool:=
 (e.rd.all fun b=>decide (b<len))&&
 match e.n with
 |0=>e.ws.all fun p=>decide (p.1<=len)
 |n+1=>(e.ws.all fun p=>decide (p.1<len+(n+1)))&&(List.range (n+1)).all fun j=>(e.ws.map (·.1)).contains (len+j)
noncomputable def fi(P:Program)(call:dw)(ops:List Oper):List Oper->St->Option (St×List Ent)
 |[],st=>some (st,[])
 |o::rest,st=>match ju P call ops o st with
  |some (st',some e)=>(match lT st.heap.length e,fi P call ops rest st' with|true,some (j,es)=>some (j,e::es)|_,_=>none)
  |_=>none
def Bp(l:List Operand):List Tmp:=l.filterMap fun|.tmp t=>some t|_=>none
def dG(ops:List Oper)(o:Oper):List Tmp:=
 Bp o.op.operands.toList++(match o.guard with|some (j,_)=>(match ops[j]? with|some oj=>oj.dst.toList|none=>[])|none=>[])
def vP(acc:List Nat)(o:Oper):Nat:=o.after.toList.foldl (fun s e=>if Region.binds .any e then s ||| (2^e.on ||| acc.getD e.on 0)else s) 0
def rU:List Nat->List Oper->List Nat
 |acc,[]=>acc
 |acc,o::rest=>rU (acc++[vP acc o]) rest
def se(l k:List Nat):Bool:=l.all fun x=>!k.contains x
def Ac(ops:List Oper)(a b:Ent):Bool:=
 let j:=a.o.dst.toList;let m:=b.o.dst.toList
 se j (dG ops b.o)&&se j m&&se m (dG ops a.o)&&
 se (a.ws.map (·.1)) b.rd&&se (a.ws.map (·.1)) (b.ws.map (·.1))&&se (b.ws.map (·.1)) a.rd
def rD(ops:List Oper)(a b:Ent)(j:List Ent):Bool:=
 match a.o.op,b.o.op with
 |.lookup t (.tmp m) (.tmp k) false,.mapEntry p (.tmp q) (.tmp k')=>
  Nat.beq t p&&Nat.beq m q&&Nat.beq k k'&&a.o.guard.isNone&&b.o.guard.isNone&&a.ws.isEmpty&&se a.o.dst.toList (dG ops b.o)&&se a.o.dst.toList b.o.dst.toList&&se b.o.dst.toList (dG ops a.o)&&
  j.all fun c=>se (c.ws.map (·.1)) a.rd&&!c.o.dst.toList.contains m&&!c.o.dst.toList.contains k
 |_,_=>false
def qc(ops:List Oper)(b:Ent)(m:Nat):List Ent->Nat->Bool
 |[],_=>true
 |a::es,i=>(m.testBit i||Ac ops a b||rD ops a b es)&&(a.ws.all fun p=>decide (p.1<b.nid))&&qc ops b m es (i+1)
def nc(ops:List Oper)(m:List Nat)(all:List Ent):List Ent->Nat->Bool
 |[],_=>true
 |b::es,j=>qc ops b (m.getD j 0) (all.take j) 0&&nc ops m all es (j+1)
def ph:List Oper->Nat->Bool
 |[],_=>true
 |o::rest,i=>o.after.toList.all (fun e=>!Region.binds .any e||decide (e.on<i))&&ph rest (i+1)
noncomputable def iY(P:Program)(call:dw)(ops:List Oper)(draw:Bool)(st:St):Option St:=
 match draw with
 |false=>gj P call ops ops st
 |true=>match fi P call ops ops st with
  |some (st',es)=>(match ph ops 0&&nc ops (rU [] ops) es es 0 with|true=>some st'|false=>none)
  |none=>none
inductive X where
 |normal
 |exit (id:Nat)
 |ret
def iter(f:St->Option (X×St)):Nat->St->Option (X×St)
 |0,_=>none
 |n+1,st=>match f st with
  |some (.normal,st')=>iter f n st'
  |r=>r
noncomputable def evalCode(P:Program)(call:dw)(n:Nat):Code->St->Option (X×St)
 |.skip,st=>some (.normal,st)
 |.label _,st=>some (.normal,st)
 |.region _ ops draw,st=>(match iY P call ops.toList draw st with|some st'=>some (.normal,st')|none=>none)
 |.seq a b,st=>(match evalCode P call n a st with|some (.normal,st')=>evalCode P call n b st'|r=>r)
 |.cond c a b,st=>(match evA st.slots c with|.at (.bool true)=>evalCode P call n a st|.at (.bool false)=>evalCode P call n b st|_=>none)
 |.block id c,st=>(match evalCode P call n c st with|some (.exit j,st')=>(match decide (j=id)with|true=>some (.normal,st')|false=>some (.exit j,st'))|r=>r)
 |.loop c,st=>iter (evalCode P call n c) n st
 |.exit id,st=>some (.exit id,st)
 |.ret,st=>some (.ret,st)
 |_,_=>none
noncomputable def vS(P:Program)(st:St):ResultVar->Option AV
 |.tmp t=>some (uv st.slots t)
 |.cell a t=>yI P st.heap t (uv st.slots a)
noncomputable def dx(P:Program)(st:St):List ResultVar->Option (List AV)
 |[]=>some []
 |r::rs=>match vS P st r,dx P st rs with|some v,some vs=>some (v::vs)|_,_=>none
def gL:List AV->AV|[v]=>v|vs=>.tup vs
def pd(n:Nat):List AV:=List.replicate n .unk
noncomputable def nZ(P:Program)(call:dw)(n:Nat)(fn:Func)(args:List AV)(H:List Blk):Option (AV×List Blk):=
 match fn.body with
 |none=>none
 |some c=>match evalCode P call n c ⟨args++pd (fn.ntmps-args.length),H⟩with
  |some (.exit _,_)=>none
  |some (_,st)=>(match dx P st fn.results.toList with|some vs=>some (gL vs,st.heap)|none=>none)
  |none=>none
def nJ{α β:Type}(f:α->Option β):List α->Option (List β)
 |[]=>some []
 |x::xs=>match f x,nJ f xs with|some y,some ys=>some (y::ys)|_,_=>none
def iO(H:List Blk)(ok:Nat->Bool):Nat->AV->Option AV
 |_,.unk=>some .unk
 |_,.at v=>some (.at v)
 |_,.sl nl cs len=>some (.sl nl cs len)
 |_,.pp cs off=>some (.pp cs off)
 |0,_=>none
 |n+1,.hs b off len es=>(match ok b,gC H es (.hs b off len es)with
  |true,some (cs,m)=>(match nJ (iO H ok n) cs with|some cs'=>some (.sl true cs' m)|none=>none)
  |_,_=>none)
 |n+1,.hp b off=>(match ok b,H[b]? with
  |true,some (.own cs)=>(match nJ (iO H ok n) cs with|some cs'=>some (.pp cs' off)|none=>none)
  |true,some (.fix cs)=>(match nJ (iO H ok n) cs with|some cs'=>some (.pp cs' off)|none=>none)
  |_,_=>none)
 |_+1,.mp _=>none
 |_+1,.hc ..=>none
 |n+1,.agg cs=>(match nJ (iO H ok n) cs with|some cs'=>some (.agg cs')|none=>none)
 |n+1,.tup cs=>(match nJ (iO H ok n) cs with|some cs'=>some (.tup cs')|none=>none)
 |n+1,.fn f p cs=>(match nJ (iO H ok n) p,nJ (iO H ok n) cs with|some j,some cs'=>some (.fn f j cs')|_,_=>none)
mutual
def oL:AV->Bool
 |.unk|.at _=>false
 |.agg cs=>pg cs
 |.tup cs=>pg cs
 |.fn _ j cs=>pg j||pg cs
 |_=>true
def pg:List AV->Bool
 |[]=>false
 |c::cs=>oL c||pg cs
end
mutual
def kb:AV->List Nat
 |.hs b _ _ _=>[b]
 |.hc b _ _ _ _=>[b]
 |.hp b _=>[b]
 |.mp b=>[b]
 |.agg cs=>bL cs
 |.tup cs=>bL cs
 |.fn _ j cs=>bL j++bL cs
 |_=>[]
def bL:List AV->List Nat
 |[]=>[]
 |c::cs=>kb c++bL cs
end
def BK(G:List Blk)(ok:Nat->Bool)(ρ:Nat->Option Nat):Nat->AV->Option AV
 |n,.hs b off len es=>(match ρ b with|some c=>some (.hs c off len es)|none=>iO G ok n (.hs b off len es))
 |n,.hp b off=>(match ρ b with|some c=>some (.hp c off)|none=>iO G ok n (.hp b off))
 |n+1,.agg cs=>(match nJ (BK G ok ρ n) cs with|some cs'=>some (.agg cs')|none=>none)
 |n+1,.tup cs=>(match nJ (BK G ok ρ n) cs with|some cs'=>some (.tup cs')|none=>none)
 |n,x=>iO G ok n x
def qA(l:List Nat)(x:Nat):List Nat:=if l.contains x then l else l++[x]
def Jh:Option Blk->List Nat
 |some (.own cs)=>bL cs
 |some (.fix cs)=>bL cs
 |_=>[]
def reach(H:List Blk):Nat->List Nat->List Nat
 |0,l=>l
 |n+1,l=>match (l.flatMap fun b=>Jh H[b]?).filter fun b=>!l.contains b with
  |[]=>l
  |new=>reach H n (new.foldl qA l)
def frz:RC->AV
 |.row len _ cs=>.sl true cs len
 |.av A=>A
def fzC:Blk->Option (List AV)
 |.own cs=>some cs
 |.rows rs=>some (rs.map frz)
 |_=>none
def ct(H:List Blk)(l:List Nat):List (Nat×Blk):=
 l.filterMap fun b:Nat=>match (H[b]?:Option Blk)with|some (.own cs)=>some (b,.fix cs)|some (.rows rs)=>some (b,.fix (rs.map frz))|_=>none
def findAt(l:List Nat)(x base:Nat):Option Nat:=match l with
 |[]=>none
 |y::ys=>if y=x then some base else findAt ys x (base+1)
def uO(G:List Blk)(ok:Nat->Bool)(n:Nat):List Nat->Option (List (List AV))
 |[]=>some []
 |b::j=>match G[b]? with
  |some (.own cs)=>(match nJ (iO G ok n) cs,uO G ok n j with|some cs',some l=>some (cs'::l)|_,_=>none)
  |_=>none
def jv(nid:Nat):List (List AV)->List (Nat×Blk)
 |[]=>[]
 |x::xs=>(nid,.own x)::jv (nid+1) xs
def Ci:Option Blk->Bool|some (.own _)=>true|_=>false
def xb:List Nat->Bool
 |[]=>true
 |x::xs=>!xs.contains x&&xb xs
def oH(n:Nat)(l:List Nat)(H G:List Blk)(r:AV):Option uf:=
 match oL r with
 |false=>some (.loc r [] l 0)
 |true=>
  let σ:=((kb r).filter fun b=>Ci G[b]?).foldl qA [];match xb σ,uO G (fun b=>!σ.contains b) n σ,BK G (fun b=>!σ.contains b) (findAt σ · H.length) n r with
  |true,some new,some j=>some (.loc j (ct H l++jv H.length new) l new.length)
  |_,_,_=>none
end Go.Eng


namespace Go.Eng
open Go Go.RowKit
variable[Dr]
def gz(P:Program)(f:FuncId)(args:List AV)(H:List Blk):uf->Prop
 |.loc v ws rd n=>∀H':List Blk,H.length+n<=H'.length->(∀b∈rd,b<H.length->H'[b]?=H[b]?)->∀(out:Nat->Prop) (B:Nat->Prop) (w:World) (π:List (Option PB)) (vs:List Value),
   Inv out B w π H'->(∀j,H.length<=j->j<H.length+n->∀q,π[j]?≠some (some q))->RvL w (aI out π H') π args vs->
   Calls P f vs.toArray w fun e w'=>∃u π',e=.returned u/\Ext B w w' (aI out π H') (aI out π' (aN H' ws)) π π'/\Inv out B w' π' (aN H' ws)/\Rv w' (aI out π' (aN H' ws)) π' v u/\
    ∀j,(∀b,(j,b)∉ws)->π'[j]?=π[j]?
 |.whole v H'=>∀(out:Nat->Prop) (B:Nat->Prop) (w:World) (π:List (Option PB)) (vs:List Value),Inv out B w π H->RvL w (aI out π H) π args vs->
   Calls P f vs.toArray w fun e w'=>∃u π',e=.returned u/\Ext B w w' (aI out π H) (aI out π' H') π π'/\Inv out B w' π' H'/\Rv w' (aI out π' H') π' v u
def fP(P:Program)(call:dw):Prop:=∀f args H r,call f args H=some r->gz P f args H r
structure Rep (out:Nat->Prop) (B:Nat->Prop) (w:World) (π:List (Option PB)) (st:St) (a:Act):Prop where
 defers:a.defers=[]
 slots:RvL w (aI out π st.heap) π st.slots a.tmps.toList
 inv:Inv out B w π st.heap
section
variable{P:Program}{out:Nat->Prop}{B:Nat->Prop}{w:World}{π:List (Option PB)}
theorem jG{mu:Nat->Prop}{slots:List AV}{tmps:Array Value}(h:RvL w mu π slots tmps.toList)(t:Nat):Rv w mu π (uv slots t) (tmps.getD t undef):=by
 rw[tT];cases hs:slots[t]? with
 |none=>simp[List.getD,hs,Rv]
 |some A=>
  obtain⟨v,h1,h2⟩:=RvL.get _ _ t A h hs;have e1:slots.getD t .unk=A:=by simp[List.getD,hs]
  have e2:tmps.getD t undef=v:=by
   rw[Array.getElem?_toList]at h1;rw[Array.getD_eq_getD_getElem?,h1];rfl
  rw[e1,e2];exact h2
theorem jb{mu:Nat->Prop}{slots:List AV}{a:Act}(h:RvL w mu π slots a.tmps.toList):∀x,Rv w mu π (evA slots x) (a.eval x)
 |.tmp t=>jG h t
 |.const _=>rfl
 |.global _=>rfl
 |.func _=>⟨#[],#[],rfl,rfl,rfl⟩
theorem kI{mu:Nat->Prop}{ops:Array Oper}{o:Oper}{slots:List AV}{a:Act}{b:Bool}(h:RvL w mu π slots a.tmps.toList)(hw:cH ops.toList o slots=some b):
  Region.wanted o (yielded ops a.tmps)=b:=by
 unfold cH at hw;unfold Region.wanted;split at hw
 ·rename_i z;cases hw;simp[z]
 ·rename_i j want z;split at hw
  ·rename_i oj q;split at hw
   ·rename_i d C;split at hw
    ·rename_i c hc;cases hw;have hs:=jG h d;rw[hc]at hs;have m:a.tmps.getD d undef=.bool c:=hs;have D:a.tmps[d]?=some (.bool c):=by
      rw[Array.getD_eq_getD_getElem?]at m;cases p:a.tmps[d]? with
      |none=>rw[p]at m;simp[undef]at m
      |some x=>rw[p]at m;simpa using m
     have E:yielded ops a.tmps j=some c:=by
      rw[Array.getElem?_toList]at q;simp[yielded,q,C,D]
     simp[z,E]
    ·rename_i vs hc;cases hw;have hs:=jG h d;rw[hc]at hs;have m:a.tmps.getD d undef=.tuple vs:=hs;have E:yielded ops a.tmps j=none:=by
      rw[Array.getElem?_toList]at q;rw[Array.getD_eq_getD_getElem?]at m;cases p:a.tmps[d]? with
      |none=>simp[yielded,q,C,p]
      |some x=>rw[p]at m;simp only[Option.getD_some]at m;subst m;simp[yielded,q,C,p]
     simp[z,E]
    ·cases hw
   ·cases hw
  ·cases hw
theorem uw{mu:Nat->Prop}{slots:List AV}{a:Act}{dst:Option Tmp}{A:AV}{v:Value}(h:RvL w mu π slots a.tmps.toList)(j:Rv w mu π A v):RvL w mu π (fQ slots dst A) (a.put dst v).tmps.toList:=by
 cases dst with
 |none=>exact h
 |some d=>simp only[fQ,Act.put,Array.toList_setIfInBounds];exact RvL.set _ _ d A v h j
theorem put_defers{a:Act}{dst:Option Tmp}{v:Value}:(a.put dst v).defers=a.defers:=by cases dst<;>rfl
theorem Inv.extend{H:List Blk}(z:Inv out B w π H)(n:Nat):
  Inv out B w (π++List.replicate n none) (H++gK n)/\Ext B w w (aI out π H) (aI out (π++List.replicate n none) (H++gK n)) π (π++List.replicate n none):=by
 have U:=z.len;have D:∀{i:Nat} {x:Blk},(H++gK n)[i]?=some x->H[i]?=some x\/(H.length<=i/\x=.dead):=by
  intro i x h;by_cases hi:i<H.length
  ·rw[List.getElem?_append_left hi]at h;exact .inl h
  ·rw[List.getElem?_append_right (by omega)]at h;refine .inr ⟨by omega,?_⟩;have:=List.mem_of_getElem? h;simp[gK]at this;exact this.2
 have gπ:∀{i:Nat} {p:PB},(π++List.replicate n none)[i]?=some (some p)->π[i]?=some (some p):=by
  intro i p h;by_cases hi:i<π.length
  ·rwa[List.getElem?_append_left hi]at h
  ·rw[List.getElem?_append_right (by omega)]at h;have:=List.mem_of_getElem? h;simp at this
 have M:Ext B w w (aI out π H) (aI out (π++List.replicate n none) (H++gK n)) π (π++List.replicate n none):=by
  refine⟨fun _ _=>rfl,Nat.le_refl _,fun b _ N=>⟨rfl,?_⟩,fun i p h=>?_,rfl,rfl,rfl,fun _=>Nat.le_refl _⟩
  ·rintro(Y|⟨i,x,p,h1,h2,C,E⟩)
   ·exact N (.inl Y)
   ·rcases D h1 with m|⟨_,rfl⟩
    ·exact N (.inr ⟨i,x,p,m,h2,gπ C,E⟩)
    ·simp[Blk.eN]at h2
  ·rw[List.getElem?_append_left (aK h)];exact h
 refine⟨⟨by simp[U,gK],z.bound,z.out_lt,?_,?_,?_⟩,M⟩
 ·intro i x p b h1 h2 C;rcases D h1 with m|⟨_,rfl⟩
  ·exact z.baseO i x p b m (gπ h2) C
  ·exact C.elim
 ·intro i x p h1 h2;rcases D h1 with m|⟨_,rfl⟩
  ·exact dy.ext M (fun _ _=>rfl) (z.ok i x p m (gπ h2))
  ·trivial
 ·intro i j x y p q b I h1 h2 C E O h6 T;rcases D h1 with m|⟨_,rfl⟩
  ·rcases D h2 with J|⟨_,rfl⟩
   ·exact z.sepO i j x y p q b I m J (gπ C) (gπ E) O h6 T
   ·exact T.elim
  ·simp[Blk.eN]at O
theorem re{H:List Blk}(j:Inv out B w π H):∀q,π[H.length]?≠some (some q):=by
 intro q h;have:=aK h;have:=j.len;omega
theorem Rep.ext{w':World}{π':List (Option PB)}{H H':List Blk}{slots:List AV}{a:Act}(j:a.defers=[])(hs:RvL w (aI out π H) π slots a.tmps.toList)(m:Ext B w w' (aI out π H) (aI out π' H') π π')(p:Inv out B w' π' H')
  {dst:Option Tmp} {A:AV} {v:Value} (q:Rv w' (aI out π' H') π' A v):Rep out B w' π' ⟨fQ slots dst A,H'⟩ (a.put dst v):=
 ⟨by rw[put_defers];exact j,uw (RvL.ext m _ _ hs) q,p⟩
theorem AJ(z:rQ P){call:dw}(p:fP P call){ops:Array Oper}{o:Oper}{st st':St}{Y:Option Ent}{a:Act}(m:Rep out B w π st a)(h:ju P call ops.toList o st=some (st',Y))
  {K:Act->World->Prop} {Q:Exit->Act->World->Prop}
  (C:∀a' w' π',Rep out B w' π' st' a'->Ext B w w' (aI out π st.heap) (aI out π' st'.heap) π π'->K a' w'):
  if Region.wanted o (yielded ops a.tmps)then o.wp P a w K Q\/(o.asks P a w/\LetsOut Q)else K (a.put o.dst undef) w:=by
 unfold ju at h;split at h
 ·rename_i hw;rw[if_pos (kI m.slots hw)];refine .inl ?_;unfold Oper.wp;split at h
  ·rename_i v I;rw[dS]at h;cases h;obtain⟨nx,u,h1,h2,D⟩:=ji z m.inv (Nat.le_refl _) (re m.inv) (jb m.slots) I;rw[h1];rcases h2 with rfl|⟨rfl,rfl⟩
   ·exact C _ _ π (Rep.ext m.defers m.slots (Ext.refl _ _ _) m.inv D) (Ext.refl _ _ _)
   ·exact C _ _ π (Rep.ext m.defers m.slots (Ext.refl _ _ _) m.inv D) (Ext.refl _ _ _)
  ·rename_i v ws I;rw[dS]at h;cases h;obtain⟨nx,u,w',π',h1,h2,D,O,T,_⟩:=ji z m.inv (Nat.le_refl _) (re m.inv) (jb m.slots) I;rw[h1];rcases h2 with rfl|⟨rfl,rfl⟩
   ·exact C _ _ π' (Rep.ext m.defers m.slots D O T) D
   ·exact C _ _ π' (Rep.ext m.defers m.slots D O T) D
  ·rename_i f args I;obtain⟨vs,h1,h2⟩:=ji z m.inv (Nat.le_refl _) (re m.inv) (jb m.slots) I;rw[h1];simp only[Oper.upon];split at h
   ·rename_i v ws rd n hc;rw[dS]at h;cases h;obtain⟨J,E⟩:=m.inv.extend n;have hl:=m.inv.len;have:=p _ _ _ _ hc (st.heap++gK n) (by simp[gK]) (fun b _ M=>by rw[List.getElem?_append_left M]) out B w (π++List.replicate n none) vs.toList J (fun j h1 _ q U=>by
          rw[List.getElem?_append_right (by omega)]at U;have:=List.mem_of_getElem? U;simp at this) (RvL.ext E _ _ h2)
    rw[Array.toArray_toList]at this;refine this.mono ?_;rintro e N ⟨u,π',rfl,g1,g2,g3,_⟩;exact C _ _ π' (Rep.ext m.defers (RvL.ext E _ _ m.slots) g1 g2 g3) (E.trans g1)
   ·rename_i v H' hc;rw[dS]at h;cases h;have:=p _ _ _ _ hc out B w π vs.toList m.inv h2;rw[Array.toArray_toList]at this;refine this.mono ?_;rintro e N ⟨u,π',rfl,g1,g2,g3⟩;exact C _ _ π' (Rep.ext m.defers m.slots g1 g2 g3) g1
   ·cases h
  ·cases h
 ·rename_i hw;rw[kI m.slots hw];simp only[Bool.false_eq_true,if_false];rw[dS]at h;cases h;exact C _ _ π (Rep.ext m.defers m.slots (Ext.refl _ _ _) m.inv rfl) (Ext.refl _ _ _)
 ·cases h
end
end Go.Eng

