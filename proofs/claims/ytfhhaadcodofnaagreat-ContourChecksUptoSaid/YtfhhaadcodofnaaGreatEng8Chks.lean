import Derived.Test.YtfhhaadcodofnaaGreatEng5Chks
set_option linter.all false
namespace Go.Eng
open Go Go.RowKit
variable[Dr]
theorem Bc{P:Program}{ρ:Operand->AV}{H H':List Blk}{nid:Nat}{o:Oper}(h:∀b∈rF H ρ o,H[b]?=H'[b]?):evalOp P ρ H nid o=evalOp P ρ H' nid o:=by
 have I:∀a:AV,(∀b∈eX a,H[b]?=H'[b]?)->cellAt H a=cellAt H' a:=by
  intro a ha;cases a<;>simp only[cellAt];rw[ha _ (by simp[eX])]
 have E:∀a:AV,(∀b∈eX a,H[b]?=H'[b]?)->oE H a=oE H' a:=by
  intro a ha;cases a<;>simp only[oE];rw[ha _ (by simp[eX])]
 have D:∀(n:Nat) (a:AV),(∀b∈eX a,H[b]?=H'[b]?)->jj H n a=jj H' n a:=by
  intro n a ha;unfold jj;split<;>try rfl
  rw[ha _ (by simp[eX])]
 have C:∀a:AV,(∀b∈eX a,H[b]?=H'[b]?)->lq H a=lq H' a:=by
  intro a ha;cases a<;>simp only[lq];rw[ha _ (by simp[eX])]
 unfold evalOp;unfold rF at h;cases T:o.op<;>simp only[T,x7,th,zU,va,kZ,vv,oX,qk,mc,vJ,vN,nF]at h ⊢
 case load t a=>
  simp only[zM,I _ h,E _ h]
 case store t a x=>
  simp only[Av];cases ha:ρ a<;>simp only;rw[h _ (by simp[ha,eX])]
 case slice t x O N mx=>
  cases mx with
  |some _=>rfl
  |none=>
   simp only;have:∀y O N,(∀b∈eX y,H[b]?=H'[b]?)->wB P H t y O N=wB P H' t y O N:=by
    intro y O N J;simp only[wB];cases P.underlying t with
    |none=>rfl
    |some d=>
     cases d<;>simp only;cases gE P _<;>cases y<;>simp only;rw[J _ (by simp[eX])]
   split
   ·rfl
   ·rw[this _ _ _ h]
 case makeFunc fn U cs=>cases fn<;>rfl
 case lookup t x Y ok=>simp only[eK,C _ h]
 case mapUpdate t m k x=>simp only[gW,C _ h]
 case insert t m k x=>simp only[gW,C _ h]
 case mapEntry t m k=>simp only[nu,C _ h]
 case entryStore t m k x=>simp only[mD,C _ h]
 case range t x=>simp only[ow,C _ h]
 case entry it=>
  have h1:sD H (ρ it)=sD H' (ρ it):=by
   unfold sD;split
   ·rename_i j heq;rw[h j (by rw[heq];simp[eX])]
   ·rfl
  simp only[jE,<-h1];cases N:sD H (ρ it)with
  |none=>rfl
  |some q=>obtain⟨m,n,seen⟩:=q;simp only;rw[h m (by simp[N])]
 case call c=>
  cases hc:c.callee<;>simp only;simp only[nK];split<;>try rfl
  ·rename_i s x heq;have h1:∀b∈eX s,H[b]?=H'[b]?:=by
    intro b hb;refine h b (List.mem_flatMap.2 ?_);have:s∈c.args.toList.map ρ:=by rw[heq];simp
    obtain⟨y,J,rfl⟩:=List.mem_map.1 this;exact⟨y,J,hb⟩
   have h2:∀b∈eX x,H[b]?=H'[b]?:=by
    intro b hb;refine h b (List.mem_flatMap.2 ?_);have:x∈c.args.toList.map ρ:=by rw[heq];simp
    obtain⟨y,J,rfl⟩:=List.mem_map.1 this;exact⟨y,J,hb⟩
   have:∀n by_,my H nid n by_ s x=my H' nid n by_ s x:=by
    intro n by_;simp only[my,D _ _ h2];split
    ·rfl
    ·split
     ·rfl
     ·rfl
     ·rw[h1 _ (by simp[eX])]
     ·rfl
   simp only[this]
  ·rename_i s x heq;have h1:∀b∈eX s,H[b]?=H'[b]?:=by
    intro b hb;refine h b (List.mem_flatMap.2 ?_);have:s∈c.args.toList.map ρ:=by rw[heq];simp
    obtain⟨y,J,rfl⟩:=List.mem_map.1 this;exact⟨y,J,hb⟩
   have h2:∀b∈eX x,H[b]?=H'[b]?:=by
    intro b hb;refine h b (List.mem_flatMap.2 ?_);have:x∈c.args.toList.map ρ:=by rw[heq];simp
    obtain⟨y,J,rfl⟩:=List.mem_map.1 this;exact⟨y,J,hb⟩
   have:∀n,yR H n s x=yR H' n s x:=by
    intro n;simp only[yR,D _ _ h2];split
    ·rfl
    ·split
     ·rw[h1 _ (by simp[eX])]
     ·rfl
   simp only[this]
  ·rename_i d heq;have h1:∀b∈eX d,H[b]?=H'[b]?:=by
    intro b hb;refine h b (List.mem_flatMap.2 ?_);have:d∈c.args.toList.map ρ:=by rw[heq];simp
    obtain⟨y,J,rfl⟩:=List.mem_map.1 this;exact⟨y,J,hb⟩
   have:∀n z,ua H n z d=ua H' n z d:=by
    intro n z;simp only[ua];split
    ·rw[h1 _ (by simp[eX])]
    ·rfl
   simp only[this]
theorem yr{P:Program}{ρ ρ':Operand->AV}{H:List Blk}{nid:Nat}{o:Oper}(h:∀x∈o.op.operands.toList,ρ x=ρ' x):evalOp P ρ H nid o=evalOp P ρ' H nid o:=by
 have j:∀(l:List (Nat×Operand)),(∀x∈(l.map (·.2)),ρ x=ρ' x)->(l.map fun p=>(p.1,ρ p.2))=l.map fun p=>(p.1,ρ' p.2):=by
  intro l E;apply List.map_congr_left;intro p hp;rw[E _ (List.mem_map_of_mem hp)]
 have q:∀(l:List Operand),(∀x∈l,ρ x=ρ' x)->l.map ρ=l.map ρ':=fun l E=>List.map_congr_left E
 unfold evalOp;cases I:o.op<;>simp only[I,Op.operands,x7,th,zU,va,kZ,vv,oX,qk,mc,vJ,vN,nF]at h ⊢
 case move x=>rw[h x (by simp)]
 case «assign» x=>rw[h x (by simp)]
 case pick c a b=>rw[h c (by simp),h a (by simp),h b (by simp)]
 case box t x=>rw[h x (by simp)]
 case build t ps=>rw[j _ (by simpa using h)]
 case buildSlice t n ps=>rw[j _ (by simpa using h)]
 case load t a=>rw[h a (by simp)]
 case store t a x=>rw[h a (by simp),h x (by simp)]
 case nilCheck x=>rw[h x (by simp)]
 case binOp op t x y u=>rw[h x (by simp),h y (by simp)]
 case unOp op t x=>rw[h x (by simp)]
 case convert s d x=>rw[h x (by simp)]
 case makeFunc fn J cs=>
  cases fn<;>simp only;rw[q J.toList (fun x hx=>h x (by simp at hx ⊢;exact .inl hx)),q cs.toList (fun x hx=>h x (by simp at hx ⊢;exact .inr hx))]
 case makeSlice t l c=>rw[h l (by simp),h c (by simp)]
 case slice t x C D mx=>
  cases mx with
  |some _=>rfl
  |none=>
   have e1:ρ x=ρ' x:=h x (by simp);have e2:C.map ρ=C.map ρ':=by cases C with|none=>rfl|some y=>simp[h y (by simp)]
   have N:D.map ρ=D.map ρ':=by cases D with|none=>rfl|some y=>simp[h y (by simp)]
   simp only[e1,e2,N];cases C<;>cases D<;>simp_all
 case fieldAddr s x f=>rw[h x (by simp)]
 case field s x f=>rw[h x (by simp)]
 case indexAddr t x z=>rw[h x (by simp),h z (by simp)]
 case index t x z=>rw[h x (by simp),h z (by simp)]
 case extract t z=>rw[h t (by simp)]
 case makeMap t r=>
  have e:r.map ρ=r.map ρ':=by cases r with|none=>rfl|some y=>simp[h y (by simp)]
  rw[e]
 case lookup t x z ok=>rw[h x (by simp),h z (by simp)]
 case mapUpdate t m k x=>rw[h m (by simp),h k (by simp),h x (by simp)]
 case insert t m k x=>rw[h m (by simp),h k (by simp),h x (by simp)]
 case mapEntry t m k=>rw[h m (by simp),h k (by simp)]
 case range t x=>rw[h x (by simp)]
 case entry it=>rw[h it (by simp)]
 case entryStore t m k x=>rw[h m (by simp),h k (by simp),h x (by simp)]
 case call c=>
  have ha:c.args.toList.map ρ=c.args.toList.map ρ':=q _ fun x hx=>h x (by simp only[Call.operands,Array.toList_append,List.mem_append];exact .inr hx)
  cases hc:c.callee<;>simp only
  case value f=>
   have:ρ f=ρ' f:=h f (by simp[Call.operands,hc]);rw[this,ha]
  case builtin b=>rw[ha]
end Go.Eng


namespace Go.Eng
open Go Go.RowKit
variable[Dr]
structure St where
 slots:List AV
 heap:List Blk
inductive vP where
 |loc (v:AV) (ws:List (Nat×Blk)) (rd:List Nat) (n:Nat)
 |whole (v:AV) (H:List Blk)
abbrev eN:=FuncId->List AV->List Blk->Option vP
noncomputable def vO(l:List AV):Nat->AV:=
 List.rec (motive:=fun _=>Nat->AV) (fun _=>.unk) (fun x _ j n=>Nat.rec (motive:=fun _=>AV) x (fun m _=>j m) n) l
theorem uU(l:List AV):∀n:Nat,vO l n=l.getD n .unk:=by
 induction l with
 |nil=>intro n;rfl
 |cons x l j=>intro n;cases n with
  |zero=>rfl
  |succ n=>exact(j n).trans (by simp)
noncomputable def Jv{α:Type}(l:List AV):Nat->AV->(List AV->α)->α:=
 List.rec (motive:=fun _=>Nat->AV->(List AV->α)->α) (fun _ _ k=>k []) (fun x xs j n v k=>Nat.rec (motive:=fun _=>α) (k (v::xs)) (fun m _=>j m v (fun r=>k (x::r))) n) l
theorem Hv{α:Type}(l:List AV):∀(n:Nat) (v:AV) (k:List AV->α),Jv l n v k=k (l.set n v):=by
 induction l with
 |nil=>intro n v k;rfl
 |cons x l j=>intro n v k;cases n with
  |zero=>rfl
  |succ n=>exact j n v _
noncomputable def evA(slots:List AV):Operand->AV
 |.tmp t=>vO slots t
 |.const v=>.at v
 |.global g=>.at (.pointer (some ⟨g,0,none⟩))
 |.func f=>.fn f [] []
def iM(slots:List AV)(dst:Option Tmp)(v:AV):List AV:=match dst with|some d=>slots.set d v|none=>slots
noncomputable def ED{α:Type}(slots:List AV)(dst:Option Tmp)(v:AV)(k:List AV->α):α:=match dst with|some d=>Jv slots d v k|none=>k slots
theorem ft{α:Type}(slots:List AV)(dst:Option Tmp)(v:AV)(k:List AV->α):ED slots dst v k=k (iM slots dst v):=by
 cases dst with
 |none=>rfl
 |some d=>exact Hv slots d v k
noncomputable def dK(ops:List Oper)(o:Oper)(slots:List AV):Option Bool:=
 match o.guard with
 |none=>some true
 |some (j,want)=>match ops[j]? with
  |some oj=>(match oj.dst with|some d=>(match vO slots d with|.at (.bool b)=>some (b==want)|.at (.tuple _)=>some false|_=>none)|none=>none)
  |none=>none
def jz(n:Nat):List Blk:=List.replicate n .dead
structure Ent where
 o:Oper
 nid:Nat
 v:AV
 ws:List (Nat×Blk)
 rd:List Nat
 n:Nat
noncomputable def lL(P:Program)(call:eN)(ops:List Oper)(o:Oper)(st:St):Option (St×Option Ent):=
 match dK ops o st.slots with
 |some true=>(match evalOp P (evA st.slots) st.heap st.heap.length o with
  |some (.pure v)=>ED st.slots o.dst v fun s=>some (⟨s,st.heap⟩,some ⟨o,st.heap.length,v,[],rF st.heap (evA st.slots) o,0⟩)
  |some (.eff v ws)=>ED st.slots o.dst v fun s=>some (⟨s,aR st.heap ws⟩,some ⟨o,st.heap.length,v,ws,rF st.heap (evA st.slots) o,0⟩)
  |some (.call f args)=>(match call f args st.heap with
   |some (.loc v ws rd n)=>ED st.slots o.dst v fun s=>some (⟨s,aR (st.heap++jz n) ws⟩,some ⟨o,st.heap.length,v,ws,rd,n⟩)
   |some (.whole v H)=>ED st.slots o.dst v fun s=>some (⟨s,H⟩,none)
   |none=>none)
  |none=>none)
 |some false=>ED st.slots o.dst (.at undef) fun s=>some (⟨s,st.heap⟩,some ⟨o,st.heap.length,.at undef,[],[],0⟩)
 |none=>none
noncomputable def iT(P:Program)(call:eN)(ops:List Oper):List Oper->St->Option St
 |[],st=>some st
 |o::rest,st=>match lL P call ops o st with
  |some (st',_)=>iT P call ops rest st'
  |none=>none
def nX(len:Nat)(e:Ent):Bool:=
 (e.rd.all fun b=>decide (b<len))&&
 match e.n with
 |0=>e.ws.all fun p=>decide (p.1<=len)
 |n+1=>(e.ws.all fun p=>decide (p.1<len+(n+1)))&&(List.range (n+1)).all fun j=>(e.ws.map (·.1)).contains (len+j)
noncomputable def gU(P:Program)(call:eN)(ops:List Oper):List Oper->St->Option (St×List Ent)
 |[],st=>some (st,[])
 |o::rest,st=>match lL P call ops o st with
  |some (st',some e)=>(match nX st.heap.length e,gU P call ops rest st' with|true,some (j,es)=>some (j,e::es)|_,_=>none)
  |_=>none
def CZ(l:List Operand):List Tmp:=l.filterMap fun|.tmp t=>some t|_=>none
def fl(ops:List Oper)(o:Oper):List Tmp:=
 CZ o.op.operands.toList++(match o.guard with|some (j,_)=>(match ops[j]? with|some oj=>oj.dst.toList|none=>[])|none=>[])
def xA(acc:List Nat)(o:Oper):Nat:=o.after.toList.foldl (fun s e=>if Region.binds .any e then s ||| (2^e.on ||| acc.getD e.on 0)else s) 0
def uI:List Nat->List Oper->List Nat
 |acc,[]=>acc
 |acc,o::rest=>uI (acc++[xA acc o]) rest
def tX(l k:List Nat):Bool:=l.all fun x=>!k.contains x
def B9(ops:List Oper)(a b:Ent):Bool:=
 let j:=a.o.dst.toList;let m:=b.o.dst.toList
 tX j (fl ops b.o)&&tX j m&&tX m (fl ops a.o)&&
 tX (a.ws.map (·.1)) b.rd&&tX (a.ws.map (·.1)) (b.ws.map (·.1))&&tX (b.ws.map (·.1)) a.rd
def tJ(ops:List Oper)(a b:Ent)(j:List Ent):Bool:=
 match a.o.op,b.o.op with
 |.lookup t (.tmp m) (.tmp k) false,.mapEntry q (.tmp z) (.tmp k')=>
  Nat.beq t q&&Nat.beq m z&&Nat.beq k k'&&a.o.guard.isNone&&b.o.guard.isNone&&a.ws.isEmpty&&tX a.o.dst.toList (fl ops b.o)&&tX a.o.dst.toList b.o.dst.toList&&tX b.o.dst.toList (fl ops a.o)&&
  j.all fun c=>tX (c.ws.map (·.1)) a.rd&&!c.o.dst.toList.contains m&&!c.o.dst.toList.contains k
 |_,_=>false
def sR(ops:List Oper)(b:Ent)(m:Nat):List Ent->Nat->Bool
 |[],_=>true
 |a::es,i=>(m.testBit i||B9 ops a b||tJ ops a b es)&&(a.ws.all fun p=>decide (p.1<b.nid))&&sR ops b m es (i+1)
def pr(ops:List Oper)(m:List Nat)(all:List Ent):List Ent->Nat->Bool
 |[],_=>true
 |b::es,j=>sR ops b (m.getD j 0) (all.take j) 0&&pr ops m all es (j+1)
def rH:List Oper->Nat->Bool
 |[],_=>true
 |o::rest,i=>o.after.toList.all (fun e=>!Region.binds .any e||decide (e.on<i))&&rH rest (i+1)
noncomputable def kJ(P:Program)(call:eN)(ops:List Oper)(draw:Bool)(st:St):Option St:=
 match draw with
 |false=>iT P call ops ops st
 |true=>match gU P call ops ops st with
  |some (st',es)=>(match rH ops 0&&pr ops (uI [] ops) es es 0 with|true=>some st'|false=>none)
  |none=>none
inductive X where
 |normal
 |exit (id:Nat)
 |ret
def iter(f:St->Option (X×St)):Nat->St->Option (X×St)
 |0,_=>none
 |n+1,st=>match f st with
  |some (.normal,st')=>iter f n st'
  |r=>r
noncomputable def evalCode(P:Program)(call:eN)(n:Nat):Code->St->Option (X×St)
 |.skip,st=>some (.normal,st)
 |.label _,st=>some (.normal,st)
 |.region _ ops draw,st=>(match kJ P call ops.toList draw st with|some st'=>some (.normal,st')|none=>none)
 |.seq a b,st=>(match evalCode P call n a st with|some (.normal,st')=>evalCode P call n b st'|r=>r)
 |.cond c a b,st=>(match evA st.slots c with|.at (.bool true)=>evalCode P call n a st|.at (.bool false)=>evalCode P call n b st|_=>none)
 |.block id c,st=>(match evalCode P call n c st with|some (.exit j,st')=>(match decide (j=id)with|true=>some (.normal,st')|false=>some (.exit j,st'))|r=>r)
 |.loop c,st=>iter (evalCode P call n c) n st
 |.exit id,st=>some (.exit id,st)
 |.ret,st=>some (.ret,st)
 |_,_=>none
noncomputable def xI(P:Program)(st:St):ResultVar->Option AV
 |.tmp t=>some (vO st.slots t)
 |.cell a t=>zM P st.heap t (vO st.slots a)
noncomputable def eZ(P:Program)(st:St):List ResultVar->Option (List AV)
 |[]=>some []
 |r::rs=>match xI P st r,eZ P st rs with|some v,some vs=>some (v::vs)|_,_=>none
def jv:List AV->AV|[v]=>v|vs=>.tup vs
def rq(n:Nat):List AV:=List.replicate n .unk
noncomputable def qc(P:Program)(call:eN)(n:Nat)(fn:Func)(args:List AV)(H:List Blk):Option (AV×List Blk):=
 match fn.body with
 |none=>none
 |some c=>match evalCode P call n c ⟨args++rq (fn.ntmps-args.length),H⟩with
  |some (.exit _,_)=>none
  |some (_,st)=>(match eZ P st fn.results.toList with|some vs=>some (jv vs,st.heap)|none=>none)
  |none=>none
def qt{α β:Type}(f:α->Option β):List α->Option (List β)
 |[]=>some []
 |x::xs=>match f x,qt f xs with|some y,some ys=>some (y::ys)|_,_=>none
def kH(H:List Blk)(ok:Nat->Bool):Nat->AV->Option AV
 |_,.unk=>some .unk
 |_,.at v=>some (.at v)
 |_,.sl nl cs len=>some (.sl nl cs len)
 |_,.pp cs off=>some (.pp cs off)
 |0,_=>none
 |n+1,.hs b off len es=>(match ok b,jj H es (.hs b off len es)with
  |true,some (cs,m)=>(match qt (kH H ok n) cs with|some cs'=>some (.sl true cs' m)|none=>none)
  |_,_=>none)
 |n+1,.hp b off=>(match ok b,H[b]? with
  |true,some (.own cs)=>(match qt (kH H ok n) cs with|some cs'=>some (.pp cs' off)|none=>none)
  |true,some (.fix cs)=>(match qt (kH H ok n) cs with|some cs'=>some (.pp cs' off)|none=>none)
  |_,_=>none)
 |_+1,.mp _=>none
 |n+1,.agg cs=>(match qt (kH H ok n) cs with|some cs'=>some (.agg cs')|none=>none)
 |n+1,.tup cs=>(match qt (kH H ok n) cs with|some cs'=>some (.tup cs')|none=>none)
 |n+1,.fn f q cs=>(match qt (kH H ok n) q,qt (kH H ok n) cs with|some j,some cs'=>some (.fn f j cs')|_,_=>none)
mutual
def rp:AV->Bool
 |.unk|.at _=>false
 |.agg cs=>qX cs
 |.tup cs=>qX cs
 |.fn _ j cs=>qX j||qX cs
 |_=>true
def qX:List AV->Bool
 |[]=>false
 |c::cs=>rp c||qX cs
end
mutual
def nI:AV->List Nat
 |.hs b _ _ _=>[b]
 |.hp b _=>[b]
 |.mp b=>[b]
 |.agg cs=>cJ cs
 |.tup cs=>cJ cs
 |.fn _ j cs=>cJ j++cJ cs
 |_=>[]
def cJ:List AV->List Nat
 |[]=>[]
 |c::cs=>nI c++cJ cs
end
def Cz(G:List Blk)(ok:Nat->Bool)(ρ:Nat->Option Nat):Nat->AV->Option AV
 |n,.hs b off len es=>(match ρ b with|some c=>some (.hs c off len es)|none=>kH G ok n (.hs b off len es))
 |n,.hp b off=>(match ρ b with|some c=>some (.hp c off)|none=>kH G ok n (.hp b off))
 |n+1,.agg cs=>(match qt (Cz G ok ρ n) cs with|some cs'=>some (.agg cs')|none=>none)
 |n+1,.tup cs=>(match qt (Cz G ok ρ n) cs with|some cs'=>some (.tup cs')|none=>none)
 |n,x=>kH G ok n x
def sS(l:List Nat)(x:Nat):List Nat:=if l.contains x then l else l++[x]
def IF:Option Blk->List Nat
 |some (.own cs)=>cJ cs
 |some (.fix cs)=>cJ cs
 |_=>[]
def reach(H:List Blk):Nat->List Nat->List Nat
 |0,l=>l
 |n+1,l=>match (l.flatMap fun b=>IF H[b]?).filter fun b=>!l.contains b with
  |[]=>l
  |new=>reach H n (new.foldl sS l)
def frz:RC->AV
 |.row len _ cs=>.sl true cs len
 |.av A=>A
def fzC:Blk->Option (List AV)
 |.own cs=>some cs
 |.rows rs=>some (rs.map frz)
 |_=>none
def dd(H:List Blk)(l:List Nat):List (Nat×Blk):=
 l.filterMap fun b:Nat=>match (H[b]?:Option Blk)with|some (.own cs)=>some (b,.fix cs)|some (.rows rs)=>some (b,.fix (rs.map frz))|_=>none
def findAt(l:List Nat)(x base:Nat):Option Nat:=match l with
 |[]=>none
 |y::ys=>if y=x then some base else findAt ys x (base+1)
def we(G:List Blk)(ok:Nat->Bool)(n:Nat):List Nat->Option (List (List AV))
 |[]=>some []
 |b::j=>match G[b]? with
  |some (.own cs)=>(match qt (kH G ok n) cs,we G ok n j with|some cs',some l=>some (cs'::l)|_,_=>none)
  |_=>none
def lH(nid:Nat):List (List AV)->List (Nat×Blk)
 |[]=>[]
 |x::xs=>(nid,.own x)::lH (nid+1) xs
def Cj:Option Blk->Bool|some (.own _)=>true|_=>false
def yM:List Nat->Bool
 |[]=>true
 |x::xs=>!xs.contains x&&yM xs
def qJ(n:Nat)(l:List Nat)(H G:List Blk)(r:AV):Option vP:=
 match rp r with
 |false=>some (.loc r [] l 0)
 |true=>
  let σ:=((nI r).filter fun b=>Cj G[b]?).foldl sS [];match yM σ,we G (fun b=>!σ.contains b) n σ,Cz G (fun b=>!σ.contains b) (findAt σ · H.length) n r with
  |true,some new,some j=>some (.loc j (dd H l++lH H.length new) l new.length)
  |_,_,_=>none
end Go.Eng


namespace Go.Eng
open Go Go.RowKit
variable[Dr]
def jh(P:Program)(f:FuncId)(args:List AV)(H:List Blk):vP->Prop
 |.loc v ws rd n=>∀H':List Blk,H.length+n<=H'.length->(∀b∈rd,b<H.length->H'[b]?=H[b]?)->∀(out:Nat->Prop) (B:Nat->Prop) (w:World) (π:List (Option PB)) (vs:List Value),
   Inv out B w π H'->(∀j,H.length<=j->j<H.length+n->∀q,π[j]?≠some (some q))->RvL w (aL out π H') π args vs->
   Calls P f vs.toArray w fun e w'=>∃u π',e=.returned u/\Ext B w w' (aL out π H') (aL out π' (aR H' ws)) π π'/\Inv out B w' π' (aR H' ws)/\Rv w' (aL out π' (aR H' ws)) π' v u/\
    ∀j,(∀b,(j,b)∉ws)->π'[j]?=π[j]?
 |.whole v H'=>∀(out:Nat->Prop) (B:Nat->Prop) (w:World) (π:List (Option PB)) (vs:List Value),Inv out B w π H->RvL w (aL out π H) π args vs->
   Calls P f vs.toArray w fun e w'=>∃u π',e=.returned u/\Ext B w w' (aL out π H) (aL out π' H') π π'/\Inv out B w' π' H'/\Rv w' (aL out π' H') π' v u
def iJ(P:Program)(call:eN):Prop:=∀f args H r,call f args H=some r->jh P f args H r
structure Rep (out:Nat->Prop) (B:Nat->Prop) (w:World) (π:List (Option PB)) (st:St) (a:Act):Prop where
 defers:a.defers=[]
 slots:RvL w (aL out π st.heap) π st.slots a.tmps.toList
 inv:Inv out B w π st.heap
section
variable{P:Program}{out:Nat->Prop}{B:Nat->Prop}{w:World}{π:List (Option PB)}
theorem lT{mu:Nat->Prop}{slots:List AV}{tmps:Array Value}(h:RvL w mu π slots tmps.toList)(t:Nat):Rv w mu π (vO slots t) (tmps.getD t undef):=by
 rw[uU];cases hs:slots[t]? with
 |none=>simp[List.getD,hs,Rv]
 |some A=>
  obtain⟨v,h1,h2⟩:=RvL.get _ _ t A h hs;have e1:slots.getD t .unk=A:=by simp[List.getD,hs]
  have e2:tmps.getD t undef=v:=by
   rw[Array.getElem?_toList]at h1;rw[Array.getD_eq_getD_getElem?,h1];rfl
  rw[e1,e2];exact h2
theorem kV{mu:Nat->Prop}{slots:List AV}{a:Act}(h:RvL w mu π slots a.tmps.toList):∀x,Rv w mu π (evA slots x) (a.eval x)
 |.tmp t=>lT h t
 |.const _=>rfl
 |.global _=>rfl
 |.func _=>⟨#[],#[],rfl,rfl,rfl⟩
theorem nt{mu:Nat->Prop}{ops:Array Oper}{o:Oper}{slots:List AV}{a:Act}{b:Bool}(h:RvL w mu π slots a.tmps.toList)(hw:dK ops.toList o slots=some b):
  Region.wanted o (yielded ops a.tmps)=b:=by
 unfold dK at hw;unfold Region.wanted;split at hw
 ·rename_i C;cases hw;simp[C]
 ·rename_i j want C;split at hw
  ·rename_i oj z;split at hw
   ·rename_i d hd;split at hw
    ·rename_i c hc;cases hw;have hs:=lT h d;rw[hc]at hs;have m:a.tmps.getD d undef=.bool c:=hs;have D:a.tmps[d]?=some (.bool c):=by
      rw[Array.getD_eq_getD_getElem?]at m;cases q:a.tmps[d]? with
      |none=>rw[q]at m;simp[undef]at m
      |some x=>rw[q]at m;simpa using m
     have E:yielded ops a.tmps j=some c:=by
      rw[Array.getElem?_toList]at z;simp[yielded,z,hd,D]
     simp[C,E]
    ·rename_i vs hc;cases hw;have hs:=lT h d;rw[hc]at hs;have m:a.tmps.getD d undef=.tuple vs:=hs;have E:yielded ops a.tmps j=none:=by
      rw[Array.getElem?_toList]at z;rw[Array.getD_eq_getD_getElem?]at m;cases q:a.tmps[d]? with
      |none=>simp[yielded,z,hd,q]
      |some x=>rw[q]at m;simp only[Option.getD_some]at m;subst m;simp[yielded,z,hd,q]
     simp[C,E]
    ·cases hw
   ·cases hw
  ·cases hw
theorem vS{mu:Nat->Prop}{slots:List AV}{a:Act}{dst:Option Tmp}{A:AV}{v:Value}(h:RvL w mu π slots a.tmps.toList)(j:Rv w mu π A v):RvL w mu π (iM slots dst A) (a.put dst v).tmps.toList:=by
 cases dst with
 |none=>exact h
 |some d=>simp only[iM,Act.put,Array.toList_setIfInBounds];exact RvL.set _ _ d A v h j
theorem put_defers{a:Act}{dst:Option Tmp}{v:Value}:(a.put dst v).defers=a.defers:=by cases dst<;>rfl
theorem Inv.extend{H:List Blk}(z:Inv out B w π H)(n:Nat):
  Inv out B w (π++List.replicate n none) (H++jz n)/\Ext B w w (aL out π H) (aL out (π++List.replicate n none) (H++jz n)) π (π++List.replicate n none):=by
 have Y:=z.len;have D:∀{i:Nat} {x:Blk},(H++jz n)[i]?=some x->H[i]?=some x\/(H.length<=i/\x=.dead):=by
  intro i x h;by_cases E:i<H.length
  ·rw[List.getElem?_append_left E]at h;exact .inl h
  ·rw[List.getElem?_append_right (by omega)]at h;refine .inr ⟨by omega,?_⟩;have:=List.mem_of_getElem? h;simp[jz]at this;exact this.2
 have gπ:∀{i:Nat} {p:PB},(π++List.replicate n none)[i]?=some (some p)->π[i]?=some (some p):=by
  intro i p h;by_cases E:i<π.length
  ·rwa[List.getElem?_append_left E]at h
  ·rw[List.getElem?_append_right (by omega)]at h;have:=List.mem_of_getElem? h;simp at this
 have O:Ext B w w (aL out π H) (aL out (π++List.replicate n none) (H++jz n)) π (π++List.replicate n none):=by
  refine⟨fun _ _=>rfl,Nat.le_refl _,fun b _ hb=>⟨rfl,?_⟩,fun i p h=>?_,rfl,rfl,rfl,fun _=>Nat.le_refl _⟩
  ·rintro(ho|⟨i,x,p,h1,h2,C,I⟩)
   ·exact hb (.inl ho)
   ·rcases D h1 with m|⟨_,rfl⟩
    ·exact hb (.inr ⟨i,x,p,m,h2,gπ C,I⟩)
    ·simp[Blk.iA]at h2
  ·rw[List.getElem?_append_left (aT h)];exact h
 refine⟨⟨by simp[Y,jz],z.bound,z.out_lt,?_,?_,?_⟩,O⟩
 ·intro i x p b h1 h2 C;rcases D h1 with m|⟨_,rfl⟩
  ·exact z.baseO i x p b m (gπ h2) C
  ·exact C.elim
 ·intro i x p h1 h2;rcases D h1 with m|⟨_,rfl⟩
  ·exact gT.ext O (fun _ _=>rfl) (z.ok i x p m (gπ h2))
  ·trivial
 ·intro i j x y p q b J h1 h2 C I T h6 U;rcases D h1 with m|⟨_,rfl⟩
  ·rcases D h2 with N|⟨_,rfl⟩
   ·exact z.sepO i j x y p q b J m N (gπ C) (gπ I) T h6 U
   ·exact U.elim
  ·simp[Blk.iA]at T
theorem tz{H:List Blk}(j:Inv out B w π H):∀q,π[H.length]?≠some (some q):=by
 intro q h;have:=aT h;have:=j.len;omega
theorem Rep.ext{w':World}{π':List (Option PB)}{H H':List Blk}{slots:List AV}{a:Act}(hd:a.defers=[])(hs:RvL w (aL out π H) π slots a.tmps.toList)(j:Ext B w w' (aL out π H) (aL out π' H') π π')(m:Inv out B w' π' H')
  {dst:Option Tmp} {A:AV} {v:Value} (q:Rv w' (aL out π' H') π' A v):Rep out B w' π' ⟨iM slots dst A,H'⟩ (a.put dst v):=
 ⟨by rw[put_defers];exact hd,vS (RvL.ext j _ _ hs) q,m⟩
theorem Br(C:ui P){call:eN}(z:iJ P call){ops:Array Oper}{o:Oper}{st st':St}{oe:Option Ent}{a:Act}(m:Rep out B w π st a)(h:lL P call ops.toList o st=some (st',oe))
  {K:Act->World->Prop} {Q:Exit->Act->World->Prop}
  (D:∀a' w' π',Rep out B w' π' st' a'->Ext B w w' (aL out π st.heap) (aL out π' st'.heap) π π'->K a' w'):
  if Region.wanted o (yielded ops a.tmps)then o.wp P a w K Q\/(o.asks P a w/\LetsOut Q)else K (a.put o.dst undef) w:=by
 unfold lL at h;split at h
 ·rename_i hw;rw[if_pos (nt m.slots hw)];refine .inl ?_;unfold Oper.wp;split at h
  ·rename_i v J;rw[ft]at h;cases h;obtain⟨nx,u,h1,h2,E⟩:=lk C m.inv (Nat.le_refl _) (tz m.inv) (kV m.slots) J;rw[h1];rcases h2 with rfl|⟨rfl,rfl⟩
   ·exact D _ _ π (Rep.ext m.defers m.slots (Ext.refl _ _ _) m.inv E) (Ext.refl _ _ _)
   ·exact D _ _ π (Rep.ext m.defers m.slots (Ext.refl _ _ _) m.inv E) (Ext.refl _ _ _)
  ·rename_i v ws J;rw[ft]at h;cases h;obtain⟨nx,u,w',π',h1,h2,E,U,Y,_⟩:=lk C m.inv (Nat.le_refl _) (tz m.inv) (kV m.slots) J;rw[h1];rcases h2 with rfl|⟨rfl,rfl⟩
   ·exact D _ _ π' (Rep.ext m.defers m.slots E U Y) E
   ·exact D _ _ π' (Rep.ext m.defers m.slots E U Y) E
  ·rename_i f args J;obtain⟨vs,h1,h2⟩:=lk C m.inv (Nat.le_refl _) (tz m.inv) (kV m.slots) J;rw[h1];simp only[Oper.upon];split at h
   ·rename_i v ws rd n hc;rw[ft]at h;cases h;obtain⟨N,I⟩:=m.inv.extend n;have hl:=m.inv.len;have:=z _ _ _ _ hc (st.heap++jz n) (by simp[jz]) (fun b _ O=>by rw[List.getElem?_append_left O]) out B w (π++List.replicate n none) vs.toList N (fun j h1 _ q hq=>by
          rw[List.getElem?_append_right (by omega)]at hq;have:=List.mem_of_getElem? hq;simp at this) (RvL.ext I _ _ h2)
    rw[Array.toArray_toList]at this;refine this.mono ?_;rintro e T ⟨u,π',rfl,g1,g2,g3,_⟩;exact D _ _ π' (Rep.ext m.defers (RvL.ext I _ _ m.slots) g1 g2 g3) (I.trans g1)
   ·rename_i v H' hc;rw[ft]at h;cases h;have:=z _ _ _ _ hc out B w π vs.toList m.inv h2;rw[Array.toArray_toList]at this;refine this.mono ?_;rintro e T ⟨u,π',rfl,g1,g2,g3⟩;exact D _ _ π' (Rep.ext m.defers m.slots g1 g2 g3) g1
   ·cases h
  ·cases h
 ·rename_i hw;rw[nt m.slots hw];simp only[Bool.false_eq_true,if_false];rw[ft]at h;cases h;exact D _ _ π (Rep.ext m.defers m.slots (Ext.refl _ _ _) m.inv rfl) (Ext.refl _ _ _)
 ·cases h
end
end Go.Eng

