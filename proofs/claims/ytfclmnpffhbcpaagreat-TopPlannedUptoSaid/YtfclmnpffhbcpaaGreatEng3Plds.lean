import Derived.Calls
import Derived.Below
import Derived.LoopN
import Derived.Orders
import Derived.Laws.Append
import Derived.Laws.AppendOwn
import Derived.Laws.MakeOwn
import Derived.Laws.CopyRow
import Derived.Laws.Cells
import Derived.Laws.Build
import Derived.Laws.StructEq
import Derived.Laws.Rows
import Derived.Laws.Bits64
import Derived.Laws.BitsLemmas
set_option linter.all false
namespace Go.Eng
open Go
class Dr where d:Bool
variable[Dr]
inductive AV where
 |unk
 |at (v:Value)
 |sl (nl:Bool) (cs:List AV) (len:Nat)
 |pp (cs:List AV) (off:Nat)
 |hs (b off len es:Nat)
 |hc (b off len cap es:Nat)
 |hp (b off:Nat)
 |mp (b:Nat)
 |agg (cs:List AV)
 |tup (cs:List AV)
 |fn (f:FuncId) (fs cs:List AV)
 deriving Inhabited
structure PB where
 blk:Nat
 off:Nat
 size:Nat
 subs:Nat->Option (Nat×Nat×Nat):=fun _=>none
inductive RC where
 |row (len es:Nat) (cs:List AV)
 |av (A:AV)
 deriving Inhabited
inductive Blk where
 |dead
 |own (cs:List AV)
 |fix (cs:List AV)
 |map (es:List (Value×AV))
 |iter (m n:Nat) (seen:List Nat)
 |rows (rs:List RC)
 deriving Inhabited
def Blk.gr:Blk->Bool|.own _|.map _|.iter ..|.rows _=>true|_=>false
def Blk.isLive:Blk->Bool|.dead=>false|_=>true
def Blk.owns:Blk->PB->Nat->Prop
 |.dead,_,_=>False
 |.rows rs,p,b=>p.blk=b\/∃(k len es:Nat) (cs:List AV) (q:Nat×Nat×Nat),rs[k]?=some (.row len es cs)/\p.subs k=some q/\q.1=b
 |_,p,b=>p.blk=b
theorem Blk.oX{x:Blk}{p:PB}(h:x.isLive=true):x.owns p p.blk:=by
 cases x with
 |dead=>cases h
 |rows rs=>exact .inl rfl
 |own cs=>exact rfl
 |fix cs=>exact rfl
 |map es=>exact rfl
 |iter m n s=>exact rfl
theorem Blk.eY{x:Blk}{p:PB}{b:Nat}(j:x.owns p b):x.isLive=true:=by
 cases x with
 |dead=>exact j.elim
 |rows rs=>rfl
 |own cs=>rfl
 |fix cs=>rfl
 |map es=>rfl
 |iter m n s=>rfl
mutual
def Rv(w:World)(mu:Nat->Prop)(π:List (Option PB)):AV->Value->Prop
 |.unk,_=>True
 |.at x,v=>v=x
 |.sl nl cs len,v=>(nl=true/\len=0/\cs=[]/\v=.slice none 0 0)\/
   (∃b o cap,v=.slice (some ⟨b,o,none⟩) len cap/\len<=cap/\(cs≠[]->¬mu b)/\RvC w mu [] cs b o)\/(len=0/\cs=[]/\∃a cap,v=.slice (some a) 0 cap)
 |.pp cs off,v=>∃b o,v=.pointer (some ⟨b,o+off,none⟩)/\(cs≠[]->¬mu b)/\RvC w mu [] cs b o
 |.hs i off len es,v=>(len=0/\v=.slice none 0 0)\/∃p a cap,π[i]?=some (some p)/\v=.slice (some a) len cap/\len<=cap/\a.spot=none/\
   (0<cap->a=⟨p.blk,p.off+off,none⟩/\p.off+off+cap*es<=p.size)
 |.hc i off len cap es,v=>∃p a,π[i]?=some (some p)/\v=.slice (some a) len cap/\len<=cap/\a.spot=none/\
   (0<cap->a=⟨p.blk,p.off+off,none⟩/\p.off+off+cap*es<=p.size)
 |.hp i off,v=>∃p,π[i]?=some (some p)/\v=.pointer (some ⟨p.blk,p.off+off,none⟩)
 |.mp i,v=>∃p,π[i]?=some (some p)/\v=.map (some p.blk)
 |.agg cs,v=>∃vs,v=.agg vs/\RvL w mu π cs vs.toList
 |.tup cs,v=>∃vs,v=.tuple vs/\RvL w mu π cs vs.toList
 |.fn f j cs,v=>∃a c,v=.func (.func f) a c/\RvL w mu π j a.toList/\RvL w mu π cs c.toList
def RvC(w:World)(mu:Nat->Prop)(π:List (Option PB)):List AV->Nat->Nat->Prop
 |[],_,_=>True
 |c::cs,b,o=>(∃v,w.cell? ⟨b,o,none⟩=some v/\v.oneCell'=true/\Rv w mu π c v)/\RvC w mu π cs b (o+1)
def RvL(w:World)(mu:Nat->Prop)(π:List (Option PB)):List AV->List Value->Prop
 |[],vs=>vs=[]
 |c::cs,vs=>∃v j,vs=v::j/\Rv w mu π c v/\RvL w mu π cs j
end
def Lo(n:Nat):Nat->Prop:=fun b=>b<n
structure Ext (B:Nat->Prop) (w w':World) (mu mu':Nat->Prop) (π π':List (Option PB)):Prop where
 low:∀b,B b->w'.heap[b]?=w.heap[b]?
 size:w.heap.size<=w'.heap.size
 keep:∀b,b<w.heap.size->¬mu b->w'.heap[b]?=w.heap[b]?/\¬mu' b
 pre:∀(i:Nat) (p:PB),π[i]?=some (some p)->π'[i]?=some (some p)
 os:w'.os=w.os
 tape:w'.tape=w.tape
 output:w'.output=w.output
 drawn:Dr.d=true->w.drawn<=w'.drawn
theorem Ext.refl{B:Nat->Prop}(w:World)(mu:Nat->Prop)(π:List (Option PB)):Ext B w w mu mu π π:=⟨fun _ _=>rfl,Nat.le_refl _,fun _ _ h=>⟨rfl,h⟩,fun _ _ h=>h,rfl,rfl,rfl,fun _=>Nat.le_refl _⟩
theorem Ext.trans{B:Nat->Prop}{w w' q:World}{mu mu' j:Nat->Prop}{π π' π'':List (Option PB)}(h:Ext B w w' mu mu' π π')(k:Ext B w' q mu' j π' π''):Ext B w q mu j π π'':=
 ⟨fun b z=>(k.low b z).trans (h.low b z),Nat.le_trans h.size k.size,fun b z hm=>by
  have h1:=h.keep b z hm;have C:=k.keep b (Nat.lt_of_lt_of_le z h.size) h1.2;exact⟨C.1.trans h1.1,C.2⟩,fun i p hp=>k.pre i p (h.pre i p hp),k.os.trans h.os,k.tape.trans h.tape,k.output.trans h.output,fun e=>Nat.le_trans (h.drawn e) (k.drawn e)⟩
theorem Ext.pure{B:Nat->Prop}{w w':World}{mu mu':Nat->Prop}{π π':List (Option PB)}(h:Ext B w w' mu mu' π π'):Ext B w w' mu mu' [] []:=
 ⟨h.low,h.size,h.keep,fun i p hp=>by simp at hp,h.os,h.tape,h.output,h.drawn⟩
theorem rD{w w':World}{b o:Nat}(h:w'.heap[b]?=w.heap[b]?):w'.cell? ⟨b,o,none⟩=w.cell? ⟨b,o,none⟩:=World.cell?_of_block (w:=w) h
mutual
theorem Rv.ext{B:Nat->Prop}{w w':World}{mu mu':Nat->Prop}{π π':List (Option PB)}(h:Ext B w w' mu mu' π π'):(A:AV)->(v:Value)->Rv w mu π A v->Rv w' mu' π' A v
 |.unk,_,_=>trivial
 |.at x,v,j=>j
 |.sl nl [] len,v,j=>by
  rcases j with j|⟨b,o,cap,h1,q,z,D⟩|j
  ·exact .inl j
  ·exact .inr (.inl ⟨b,o,cap,h1,q,fun hc=>(hc rfl).elim,trivial⟩)
  ·exact .inr (.inr j)
 |.sl nl (c::cs) len,v,j=>by
  rcases j with j|⟨b,o,cap,h1,q,z,D⟩|⟨_,j,_⟩
  rotate_left 2
  ·cases j
  ·exact .inl j
  ·have C:b<w.heap.size:=by obtain⟨⟨u,hu,_⟩,_⟩:=D;exact World.block_lt_of_cell? _ ⟨b,o,none⟩ hu
   have hk:=h.keep b C (z (by simp));exact .inr (.inl ⟨b,o,cap,h1,q,fun _=>hk.2,RvC.ext h.pure (c::cs) b o hk.1 D⟩)
 |.pp [] off,v,j=>by
  obtain⟨b,o,h1,q,z⟩:=j;exact⟨b,o,h1,fun hc=>(hc rfl).elim,trivial⟩
 |.pp (c::cs) off,v,j=>by
  obtain⟨b,o,h1,q,z⟩:=j;have C:b<w.heap.size:=by obtain⟨⟨u,hu,_⟩,_⟩:=z;exact World.block_lt_of_cell? _ ⟨b,o,none⟩ hu
  have hk:=h.keep b C (q (by simp));exact⟨b,o,h1,fun _=>hk.2,RvC.ext h.pure (c::cs) b o hk.1 z⟩
 |.hs i off len es,v,j=>by
  rcases j with j|⟨p,a,cap,h1,q⟩
  ·exact .inl j
  ·exact .inr ⟨p,a,cap,h.pre _ _ h1,q⟩
 |.hc i off len cap es,v,j=>by
  obtain⟨p,a,h1,q⟩:=j;exact⟨p,a,h.pre _ _ h1,q⟩
 |.hp i off,v,j=>by
  obtain⟨p,h1,q⟩:=j;exact⟨p,h.pre _ _ h1,q⟩
 |.mp i,v,j=>by
  obtain⟨p,h1,q⟩:=j;exact⟨p,h.pre _ _ h1,q⟩
 |.agg cs,v,j=>by
  obtain⟨vs,h1,q⟩:=j;exact⟨vs,h1,RvL.ext h cs _ q⟩
 |.tup cs,v,j=>by
  obtain⟨vs,h1,q⟩:=j;exact⟨vs,h1,RvL.ext h cs _ q⟩
 |.fn f E cs,v,j=>by
  obtain⟨a,c,h1,q,z⟩:=j;exact⟨a,c,h1,RvL.ext h E _ q,RvL.ext h cs _ z⟩
theorem RvC.ext{B:Nat->Prop}{w w':World}{mu mu':Nat->Prop}{π π':List (Option PB)}(h:Ext B w w' mu mu' π π'):(cs:List AV)->(b o:Nat)->w'.heap[b]?=w.heap[b]?->RvC w mu π cs b o->RvC w' mu' π' cs b o
 |[],_,_,_,_=>trivial
 |c::cs,b,o,j,hc=>by
  obtain⟨⟨v,h1,q,z⟩,C⟩:=hc;exact⟨⟨v,by rw[rD j];exact h1,q,Rv.ext h c v z⟩,RvC.ext h cs b (o+1) j C⟩
theorem RvL.ext{B:Nat->Prop}{w w':World}{mu mu':Nat->Prop}{π π':List (Option PB)}(h:Ext B w w' mu mu' π π'):(cs:List AV)->(vs:List Value)->RvL w mu π cs vs->RvL w' mu' π' cs vs
 |[],_,q=>q
 |c::cs,vs,q=>by
  obtain⟨v,j,h1,z,C⟩:=q;exact⟨v,j,h1,Rv.ext h c v z,RvL.ext h cs j C⟩
end
def aY(out:Nat->Prop)(π:List (Option PB))(H:List Blk)(b:Nat):Prop:=
 out b\/∃(i:Nat) (x:Blk) (p:PB),H[i]?=some x/\x.gr=true/\π[i]?=some (some p)/\x.owns p b
def tU(w:World)(mu:Nat->Prop)(s:Option (Nat×Nat×Nat))(len es:Nat)(cs:List AV)(v:Value):Prop:=
 (len=0/\cs=[]/\v=.slice none 0 0)\/∃(q:Nat×Nat×Nat) (a:Addr) (cap:Nat) (c:Array Value) (e:TypeId),s=some q/\v=.slice (some a) len cap/\len<=cap/\a.spot=none/\
  (0<cap->a=⟨q.1,q.2.1,none⟩/\q.2.1+cap*es<=q.2.2)/\w.heap[q.1]?=some (.cells c e (0,0))/\c.size=q.2.2/\(len=0->cs=[])/\RvC w mu [] cs q.1 q.2.1
def RvW(w:World)(mu:Nat->Prop)(π:List (Option PB)):List RC->(Nat->Option (Nat×Nat×Nat))->Nat->Nat->Prop
 |[],_,_,_=>True
 |.row len es cs::rs,j,b,o=>(∃v,w.cell? ⟨b,o,none⟩=some v/\tU w mu (j 0) len es cs v)/\RvW w mu π rs (fun i=>j (i+1)) b (o+1)
 |.av A::rs,j,b,o=>(∃v,w.cell? ⟨b,o,none⟩=some v/\v.oneCell'=true/\Rv w mu π A v)/\RvW w mu π rs (fun i=>j (i+1)) b (o+1)
def xd(rs:List RC)(p:PB):Prop:=
 (∀(k len es:Nat) (cs:List AV) (q:Nat×Nat×Nat),rs[k]?=some (.row len es cs)->p.subs k=some q->q.1≠p.blk)/\
 ∀(k k' len es j es':Nat) (cs cs':List AV) (q z:Nat×Nat×Nat),k≠k'->rs[k]?=some (.row len es cs)->rs[k']?=some (.row j es' cs')->p.subs k=some q->p.subs k'=some z->q.1≠z.1
theorem tU.ext{B:Nat->Prop}{w w':World}{mu mu':Nat->Prop}{π π':List (Option PB)}(h:Ext B w w' mu mu' π π'){s:Option (Nat×Nat×Nat)}{len es:Nat}{cs:List AV}{v:Value}(hs:∀q,s=some q->w'.heap[q.1]?=w.heap[q.1]?)(j:tU w mu s len es cs v):tU w' mu' s len es cs v:=by
 rcases j with j|⟨q,a,cap,c,e,h1,z,C,D,E,I,J,N,O⟩
 ·exact .inl j
 ·exact .inr ⟨q,a,cap,c,e,h1,z,C,D,E,by rw[hs q h1];exact I,J,N,RvC.ext h.pure cs _ _ (hs q h1) O⟩
theorem RvW.ext{B:Nat->Prop}{w w':World}{mu mu':Nat->Prop}{π π':List (Option PB)}(h:Ext B w w' mu mu' π π'):(rs:List RC)->(j:Nat->Option (Nat×Nat×Nat))->(b o:Nat)->w'.heap[b]?=w.heap[b]?->
  (∀(k len es:Nat) (cs:List AV) (q:Nat×Nat×Nat),rs[k]?=some (.row len es cs)->j k=some q->w'.heap[q.1]?=w.heap[q.1]?)->RvW w mu π rs j b o->RvW w' mu' π' rs j b o
 |[],_,_,_,_,_,_=>trivial
 |.row len es cs::rs,j,b,o,z,C,hc=>by
  obtain⟨⟨v,h1,D⟩,E⟩:=hc;exact⟨⟨v,by rw[rD z];exact h1,tU.ext h (fun q e=>C 0 len es cs q rfl e) D⟩,RvW.ext h rs _ b (o+1) z (fun k I J N q e1 e2=>C (k+1) I J N q (by simpa using e1) e2) E⟩
 |.av A::rs,j,b,o,z,C,hc=>by
  obtain⟨⟨v,h1,D,E⟩,O⟩:=hc;exact⟨⟨v,by rw[rD z];exact h1,D,Rv.ext h A v E⟩,RvW.ext h rs _ b (o+1) z (fun k I J N q e1 e2=>C (k+1) I J N q (by simpa using e1) e2) O⟩
def RvM(w:World)(mu:Nat->Prop)(π:List (Option PB)):Nat->List (Value×AV)->List MapEntry->Prop
 |_,[],l=>l=[]
 |i,(k,A)::es,l=>∃e j,l=e::j/\e.key=k/\e.born=i/\Rv w mu π A e.val/\RvM w mu π (i+1) es j
theorem RvM.ext{B:Nat->Prop}{w w':World}{mu mu':Nat->Prop}{π π':List (Option PB)}(h:Ext B w w' mu mu' π π'):(i:Nat)->(es:List (Value×AV))->(l:List MapEntry)->RvM w mu π i es l->RvM w' mu' π' i es l
 |_,[],_,j=>j
 |i,(k,A)::es,l,j=>by
  obtain⟨e,q,h1,z,C,D,E⟩:=j;exact⟨e,q,h1,z,C,Rv.ext h A _ D,RvM.ext h (i+1) es q E⟩
def fD(w:World)(mu:Nat->Prop)(π:List (Option PB))(p:PB):Blk->Prop
 |.dead=>True
 |.own cs=>(∃c e,w.heap[p.blk]?=some (.cells c e (0,0))/\c.size=p.size)/\RvC w mu π cs p.blk p.off
 |.fix cs=>RvC w mu π cs p.blk p.off
 |.map es=>∃a,w.heap[p.blk]?=some (.map a a.size)/\RvM w mu π 0 es a.toList
 |.iter m n seen=>p.off=0/\∃q,π[m]?=some (some q)/\w.heap[p.blk]?=some (.mapIter (some q.blk) n seen.toArray n)
 |.rows rs=>(∃c e,w.heap[p.blk]?=some (.cells c e (0,0))/\c.size=p.size)/\RvW w mu π rs p.subs p.blk p.off/\xd rs p
theorem fD.ext{B:Nat->Prop}{w w':World}{mu mu':Nat->Prop}{π π':List (Option PB)}(h:Ext B w w' mu mu' π π'){p:PB}{x:Blk}(C:∀b,x.owns p b->w'.heap[b]?=w.heap[b]?)
  (D:fD w mu π p x):fD w' mu' π' p x:=by
 have j:x.isLive=true->w'.heap[p.blk]?=w.heap[p.blk]?:=fun I=>C _ (Blk.oX I)
 cases x with
 |dead=>trivial
 |own cs=>obtain⟨⟨c,e,h1,z⟩,E⟩:=D;exact⟨⟨c,e,by rw[j rfl];exact h1,z⟩,RvC.ext h cs _ _ (j rfl) E⟩
 |fix cs=>exact RvC.ext h cs _ _ (j rfl) D
 |map es=>obtain⟨a,h1,z⟩:=D;exact⟨a,by rw[j rfl];exact h1,RvM.ext h 0 es _ z⟩
 |iter m n seen=>obtain⟨J,q,h1,z⟩:=D;exact⟨J,q,h.pre _ _ h1,by rw[j rfl];exact z⟩
 |rows rs=>obtain⟨⟨c,e,h1,z⟩,E,N⟩:=D;exact⟨⟨c,e,by rw[j rfl];exact h1,z⟩,RvW.ext h rs _ _ _ (j rfl) (fun k len es cs q g1 g2=>C _ (.inr ⟨k,len,es,cs,q,g1,g2,rfl⟩)) E,N⟩
structure Inv (out:Nat->Prop) (B:Nat->Prop) (w:World) (π:List (Option PB)) (H:List Blk):Prop where
 len:π.length=H.length
 bound:∀b,B b->b<w.heap.size
 out_lt:∀b,out b->B b
 baseO:∀(i:Nat) (x:Blk) (p:PB) (b:Nat),H[i]?=some x->π[i]?=some (some p)->x.owns p b->¬B b/\b<w.heap.size
 ok:∀(i:Nat) (x:Blk) (p:PB),H[i]?=some x->π[i]?=some (some p)->fD w (aY out π H) π p x
 sepO:∀(i j:Nat) (x y:Blk) (p q:PB) (b:Nat),i≠j->H[i]?=some x->H[j]?=some y->π[i]?=some (some p)->π[j]?=some (some q)->x.gr=true->x.owns p b->¬y.owns q b
theorem Inv.base{out:Nat->Prop}{B:Nat->Prop}{w:World}{π:List (Option PB)}{H:List Blk}(j:Inv out B w π H)(i:Nat)(x:Blk)(p:PB)(h1:H[i]?=some x)(q:π[i]?=some (some p))(z:x.isLive=true):¬B p.blk/\p.blk<w.heap.size:=
 j.baseO i x p p.blk h1 q (Blk.oX z)
theorem Blk.df{x:Blk}(h:x.gr=true):x.isLive=true:=by cases x<;>simp_all [Blk.gr,Blk.isLive]
theorem aW{α:Type}{l:List α}{i:Nat}{x:α}(h:l[i]?=some x):i<l.length:=(List.getElem?_eq_some_iff.1 h).1
def upd{α:Type}(l:List α)(i:Nat)(x:α):List α:=if i<l.length then l.set i x else l++[x]
theorem hU{α:Type}{l:List α}{i j:Nat}{x:α}(hi:i<=l.length):(upd l i x)[j]?=if j=i then some x else l[j]?:=by
 unfold upd;split
 ·rw[List.getElem?_set];by_cases q:j=i
  ·subst q;simp[*]
  ·rw[if_neg (fun e=>q e.symm),if_neg q]
 ·obtain rfl:i=l.length:=by omega
  by_cases q:j=l.length
  ·subst q;simp
  ·rw[if_neg q];by_cases z:j<l.length
   ·rw[List.getElem?_append_left z]
   ·rw[List.getElem?_eq_none (by simp;omega),List.getElem?_eq_none (by omega)]
theorem iB{α:Type}{l:List α}{i j:Nat}{x y:α}(hi:i<=l.length)(h:(upd l i x)[j]?=some y):(j=i/\y=x)\/(j≠i/\l[j]?=some y):=by
 rw[hU hi]at h;split at h
 ·rename_i e;cases h;exact .inl ⟨e,rfl⟩
 ·rename_i e;exact .inr ⟨e,h⟩
theorem ew{α:Type}{l:List α}{i:Nat}{x:α}(hi:i<=l.length):(upd l i x).length=if i=l.length then l.length+1 else l.length:=by
 unfold upd;split
 ·rw[List.length_set,if_neg (by omega)]
 ·rw[if_pos (by omega)];simp
theorem qQ{out:Nat->Prop}{B:Nat->Prop}{w:World}{π:List (Option PB)}{H:List Blk}(E:Inv out B w π H)(o:Obj)(x:Blk)(p:PB)(hp:p.blk=w.heap.size){n:Nat}(O:n<=H.length)(R:∀q,π[n]?≠some (some q))(j:∀b,x.owns p b->p.blk=b:=by first|exact fun _ h=>h|exact fun _ h=>h.elim):
  Ext B w (w.alloc o) (aY out π H) (aY out (upd π n (some p)) (upd H n x)) π (upd π n (some p)):=by
 have U:=E.len;refine⟨fun b I=>?_,by simp,fun b I hm=>⟨?_,?_⟩,?_,rfl,rfl,rfl,fun _=>Nat.le_refl _⟩
 ·have:=E.bound b I;simp only[World.alloc,Array.getElem?_push];rw[if_neg (by omega)]
 ·simp only[World.alloc,Array.getElem?_push];rw[if_neg (by omega)]
 ·rintro(S|⟨i,y,q,h1,T,J,N⟩)
  ·exact hm (.inl S)
  ·rcases iB O h1 with⟨rfl,rfl⟩|⟨hi,z⟩
   ·rcases iB (by omega) J with⟨_,e⟩|⟨C,_⟩
    ·cases e;have:=j b N;omega
    ·exact C rfl
   ·rcases iB (by omega) J with⟨e,_⟩|⟨_,D⟩
    ·exact hi e
    ·exact hm (.inr ⟨i,y,q,z,T,D,N⟩)
 ·intro i q h;rw[hU (by omega),if_neg]
  ·exact h
  ·rintro rfl;exact R q h
theorem Inv.alloc{out:Nat->Prop}{B:Nat->Prop}{w:World}{π:List (Option PB)}{H:List Blk}(E:Inv out B w π H)(o:Obj)(x:Blk)(p:PB)(hp:p.blk=w.heap.size){n:Nat}(U:n<=H.length)(hf:∀q,π[n]?≠some (some q))
  (hx:fD (w.alloc o) (aY out (upd π n (some p)) (upd H n x)) (upd π n (some p)) p x) (I:∀b,x.owns p b->p.blk=b:=by first|exact fun _ h=>h|exact fun _ h=>h.elim):Inv out B (w.alloc o) (upd π n (some p)) (upd H n x):=by
 have hE:=qQ E o x p hp U hf I;have hl:=E.len;have split:∀{j:Nat} {z:Blk} {q:PB},(upd H n x)[j]?=some z->(upd π n (some p))[j]?=some (some q)->(j=n/\z=x/\q=p)\/(j≠n/\H[j]?=some z/\π[j]?=some (some q)):=by
  intro j z q g1 g2;rcases iB U g1 with⟨rfl,rfl⟩|⟨hj,Y⟩
  ·rcases iB (by omega) g2 with⟨_,e⟩|⟨Z,_⟩
   ·cases e;exact .inl ⟨rfl,rfl,rfl⟩
   ·exact(Z rfl).elim
  ·rcases iB (by omega) g2 with⟨e,_⟩|⟨_,a1⟩
   ·exact(hj e).elim
   ·exact .inr ⟨hj,Y,a1⟩
 refine⟨by rw[ew (by omega),ew U,hl],fun b O=>by have:=E.bound b O;simp;omega,E.out_lt,?_,?_,?_⟩
 ·intro i y q b h1 N T;rcases split h1 N with⟨rfl,rfl,rfl⟩|⟨_,D,C⟩
  ·have:=I b T;exact⟨fun O=>by have:=E.bound _ O;omega,by simp;omega⟩
  ·have:=E.baseO i y q b D C T;exact⟨this.1,by simp;omega⟩
 ·intro i y q h1 N;rcases split h1 N with⟨rfl,rfl,rfl⟩|⟨_,D,C⟩
  ·exact hx
  ·refine fD.ext hE (fun b O=>?_) (E.ok i y q D C);have:=E.baseO i y q b D C O;simp only[World.alloc,Array.getElem?_push];rw[if_neg (by omega)]
 ·intro i j y z q r b R h1 N T h4 h5 h6 h7;rcases split h1 T with⟨rfl,rfl,rfl⟩|⟨_,D,S⟩
  ·rcases split N h4 with⟨e,_,_⟩|⟨_,C,J⟩
   ·exact(R e.symm).elim
   ·have:=E.baseO j z r b C J h7;have:=I b h6;omega
  ·rcases split N h4 with⟨rfl,rfl,rfl⟩|⟨_,C,J⟩
   ·have:=E.baseO i y q b D S h6;have:=I b h7;omega
   ·exact E.sepO i j y z q r b R D C S J h5 h6 h7
theorem jO{w:World}{mu:Nat->Prop}{π:List (Option PB)}:∀(cs:List AV) (vs:List Value) (b o:Nat),RvL w mu π cs vs->(∀v∈vs,v.oneCell'=true)->
  (∀j v,vs[j]?=some v->w.cell? ⟨b,o+j,none⟩=some v)->RvC w mu π cs b o
 |[],_,_,_,_,_,_=>trivial
 |c::cs,vs,b,o,z,h1,hc=>by
  obtain⟨v,q,rfl,C,D⟩:=z;refine⟨⟨v,by simpa using hc 0 v rfl,h1 v (by simp),C⟩,jO cs q b (o+1) D (fun u hu=>h1 u (by simp[hu])) fun j u E=>?_⟩;have:=hc (j+1) u (by simpa using E);rwa[show o+1+j=o+(j+1)by omega]
theorem RvC.list{w:World}{mu:Nat->Prop}{π:List (Option PB)}:∀(cs:List AV) (b o:Nat),RvC w mu π cs b o->∃vs:List Value,vs.length=cs.length/\RvL w mu π cs vs/\(∀v∈vs,v.oneCell'=true)/\
  (∀j v,vs[j]?=some v->w.cell? ⟨b,o+j,none⟩=some v)
 |[],_,_,_=>⟨[],rfl,rfl,by simp,by simp⟩
 |c::cs,b,o,h=>by
  obtain⟨⟨v,h1,z,C⟩,D⟩:=h;obtain⟨vs,E,I,J,N⟩:=RvC.list cs b (o+1) D;refine⟨v::vs,by simp[E],⟨v,vs,rfl,C,I⟩,fun u hu=>?_,fun j u q=>?_⟩
  ·rcases List.mem_cons.1 hu with rfl|hu
   ·exact z
   ·exact J u hu
  ·cases j with
   |zero=>simp at q;subst q;exact h1
   |succ j=>
    have:=N j u (by simpa using q);rwa[show o+1+j=o+(j+1)by omega]at this
theorem RvL.length{w:World}{mu:Nat->Prop}{π:List (Option PB)}:∀(cs:List AV) (vs:List Value),RvL w mu π cs vs->vs.length=cs.length
 |[],_,h=>by cases h;rfl
 |c::cs,_,h=>by obtain⟨v,j,rfl,_,q⟩:=h;simp[RvL.length cs j q]
theorem RvL.get{w:World}{mu:Nat->Prop}{π:List (Option PB)}:∀(cs:List AV) (vs:List Value) (i:Nat) (c:AV),RvL w mu π cs vs->cs[i]?=some c->∃v,vs[i]?=some v/\Rv w mu π c v
 |[],_,i,c,h,hc=>by simp at hc
 |c::cs,_,i,q,h,hc=>by
  obtain⟨v,j,rfl,h1,z⟩:=h;cases i with
  |zero=>simp at hc;subst hc;exact⟨v,rfl,h1⟩
  |succ i=>simpa using RvL.get cs j i q z (by simpa using hc)
theorem RvL.append{w:World}{mu:Nat->Prop}{π:List (Option PB)}:∀(cs q:List AV) (vs us:List Value),RvL w mu π cs vs->RvL w mu π q us->RvL w mu π (cs++q) (vs++us)
 |[],_,_,_,h,k=>by cases h;exact k
 |c::cs,q,_,us,h,k=>by obtain⟨v,j,rfl,h1,z⟩:=h;exact⟨v,j++us,rfl,h1,RvL.append cs q j us z k⟩
theorem RvL.take{w:World}{mu:Nat->Prop}{π:List (Option PB)}:∀(n:Nat) (cs:List AV) (vs:List Value),RvL w mu π cs vs->RvL w mu π (cs.take n) (vs.take n)
 |0,_,_,_=>by simp[RvL]
 |n+1,[],_,h=>by cases h;simp[RvL]
 |n+1,c::cs,_,h=>by obtain⟨v,j,rfl,h1,q⟩:=h;exact⟨v,j.take n,rfl,h1,RvL.take n cs j q⟩
theorem RvL.drop{w:World}{mu:Nat->Prop}{π:List (Option PB)}:∀(n:Nat) (cs:List AV) (vs:List Value),RvL w mu π cs vs->RvL w mu π (cs.drop n) (vs.drop n)
 |0,_,_,h=>h
 |n+1,[],_,h=>by cases h;simp[RvL]
 |n+1,c::cs,_,h=>by obtain⟨v,j,rfl,h1,q⟩:=h;exact RvL.drop n cs j q
theorem RvL.set{w:World}{mu:Nat->Prop}{π:List (Option PB)}:∀(cs:List AV) (vs:List Value) (i:Nat) (A:AV) (v:Value),RvL w mu π cs vs->Rv w mu π A v->RvL w mu π (cs.set i A) (vs.set i v)
 |[],_,i,A,v,h,k=>by cases h;simp[RvL]
 |c::cs,_,i,A,v,h,k=>by
  obtain⟨u,j,rfl,h1,q⟩:=h;cases i with
  |zero=>exact⟨v,j,rfl,k,q⟩
  |succ i=>exact⟨u,j.set i v,rfl,h1,RvL.set cs j i A v q k⟩
theorem RvL.tj{w:World}{mu:Nat->Prop}{π:List (Option PB)}:∀(cs:List AV) (vs:List Value),vs.length=cs.length->(∀(i:Nat) (c:AV) (v:Value),cs[i]?=some c->vs[i]?=some v->Rv w mu π c v)->RvL w mu π cs vs
 |[],vs,h,_=>by simpa [RvL]using h
 |c::cs,[],h,_=>by simp at h
 |c::cs,v::vs,h,k=>⟨v,vs,rfl,k 0 c v rfl rfl,RvL.tj cs vs (by simpa using h) fun i c v h1 j=>k (i+1) c v (by simpa using h1) (by simpa using j)⟩
theorem RvC.get{w:World}{mu:Nat->Prop}{π:List (Option PB)}:∀(cs:List AV) (b o i:Nat) (c:AV),RvC w mu π cs b o->cs[i]?=some c->∃v,w.cell? ⟨b,o+i,none⟩=some v/\v.oneCell'=true/\Rv w mu π c v
 |[],_,_,i,c,_,hc=>by simp at hc
 |c::cs,b,o,i,j,h,hc=>by
  obtain⟨⟨v,h1,q,z⟩,C⟩:=h;cases i with
  |zero=>simp at hc;subst hc;exact⟨v,h1,q,z⟩
  |succ i=>
   have:=RvC.get cs b (o+1) i j C (by simpa using hc);rwa[show o+1+i=o+(i+1)by omega]at this
theorem RvC.drop{w:World}{mu:Nat->Prop}{π:List (Option PB)}:∀(n:Nat) (cs:List AV) (b o:Nat),RvC w mu π cs b o->RvC w mu π (cs.drop n) b (o+n)
 |0,_,_,_,h=>h
 |n+1,[],_,_,_=>by simp[RvC]
 |n+1,c::cs,b,o,h=>by
  have:=RvC.drop n cs b (o+1) h.2;rwa[show o+1+n=o+(n+1)by omega]at this
theorem RvC.take{w:World}{mu:Nat->Prop}{π:List (Option PB)}:∀(n:Nat) (cs:List AV) (b o:Nat),RvC w mu π cs b o->RvC w mu π (cs.take n) b o
 |0,_,_,_,_=>by simp[RvC]
 |n+1,[],_,_,_=>by simp[RvC]
 |n+1,c::cs,b,o,h=>⟨h.1,RvC.take n cs b (o+1) h.2⟩
theorem RvC.bound{w:World}{mu:Nat->Prop}{π:List (Option PB)}{cs:List AV}{b o:Nat}{c:Array Value}{e:TypeId}{f:Nat×Nat}(h:RvC w mu π cs b o)(q:w.heap[b]?=some (.cells c e f))(j:cs≠[]):
  o+cs.length<=c.size:=by
 have z:cs.length-1<cs.length:=by have:=List.length_pos_iff.2 j;omega
 obtain⟨v,h1,_⟩:=RvC.get cs b o (cs.length-1) cs[cs.length-1] h (List.getElem?_eq_getElem z);simp only[World.cell?,q]at h1;have:=(Array.getElem?_eq_some_iff.1 (by simpa using h1)).1;omega
theorem dZ{α:Type}{l:List α}{i j:Nat}{y x:α}(h:(l.set i y)[j]?=some x):(i=j/\x=y)\/(i≠j/\l[j]?=some x):=by
 rw[List.getElem?_set]at h;split at h
 ·rename_i q;subst q;split at h
  ·cases h;exact .inl ⟨rfl,rfl⟩
  ·cases h
 ·rename_i q;exact .inr ⟨q,h⟩
theorem Inv.tX{out:Nat->Prop}{B:Nat->Prop}{w w':World}{π:List (Option PB)}{H:List Blk}(D:Inv out B w π H){i:Nat}{x:Blk}{p:PB}(h1:H[i]?=some x)(hp:π[i]?=some (some p))(hm:x.gr=true)(y:Blk)
  (hs:w'.heap.size=w.heap.size) (S:∀b,b≠p.blk->w'.heap[b]?=w.heap[b]?) (Z:w'.os=w.os) (ht:w'.tape=w.tape) (hu:w'.output=w.output) (hd:Dr.d=true->w.drawn<=w'.drawn)
  (hy:Ext B w w' (aY out π H) (aY out π (H.set i y)) π π->fD w' (aY out π (H.set i y)) π p y) (E:∀b,y.owns p b->x.owns p b:=by first|exact fun _ h=>h|exact fun _ h=>h.elim):
  Ext B w w' (aY out π H) (aY out π (H.set i y)) π π/\Inv out B w' π (H.set i y):=by
 have T:Ext B w w' (aY out π H) (aY out π (H.set i y)) π π:=by
  refine⟨fun b N=>S b (by rintro rfl;exact(D.base i x p h1 hp (Blk.df hm)).1 N),by omega,fun b N R=>?_,fun _ _ h=>h,Z,ht,hu,hd⟩;have U:b≠p.blk:=fun e=>R (.inr ⟨i,x,p,h1,hm,hp,by rw[e];exact Blk.oX (Blk.df hm)⟩)
  refine⟨S b U,?_⟩;rintro(Y|⟨j,z,q,g1,g2,g3,g4⟩)
  ·exact R (.inl Y)
  ·rcases dZ g1 with⟨rfl,rfl⟩|⟨_,C⟩
   ·rw[hp]at g3;cases g3;exact R (.inr ⟨i,x,p,h1,hm,hp,E b g4⟩)
   ·exact R (.inr ⟨j,z,q,C,g2,g3,g4⟩)
 refine⟨T,by simp[D.len],fun b N=>by have:=D.bound b N;omega,D.out_lt,?_,?_,?_⟩
 ·intro j z q b g1 g2 g3;rcases dZ g1 with⟨rfl,rfl⟩|⟨_,C⟩
  ·rw[hp]at g2;cases g2;have:=D.baseO i x p b h1 hp (E b g3);exact⟨this.1,by omega⟩
  ·have:=D.baseO j z q b C g2 g3;exact⟨this.1,by omega⟩
 ·intro j z q g1 g2;rcases dZ g1 with⟨rfl,rfl⟩|⟨O,C⟩
  ·rw[hp]at g2;cases g2;exact hy T
  ·exact fD.ext T (fun b N=>S _ (fun e=>D.sepO i j x z p q b O h1 C hp g2 hm (by rw[e];exact Blk.oX (Blk.df hm)) N)) (D.ok j z q C g2)
 ·intro j k z t q r b I g1 g2 g3 g4 g5 g6 g7;rcases dZ g1 with⟨rfl,rfl⟩|⟨O,C⟩
  ·rw[hp]at g3;cases g3;rcases dZ g2 with⟨rfl,_⟩|⟨_,J⟩
   ·exact(I rfl).elim
   ·exact D.sepO i k x t p r b I h1 J hp g4 hm (E b g6) g7
  ·rcases dZ g2 with⟨rfl,rfl⟩|⟨_,J⟩
   ·rw[hp]at g4;cases g4;exact D.sepO j i z x q p b I C h1 g3 hp g5 g6 (E b g7)
   ·exact D.sepO j k z t q r b I C J g3 g4 g5 g6 g7
theorem Inv.kill{out:Nat->Prop}{B:Nat->Prop}{w w':World}{π:List (Option PB)}{H:List Blk}(D:Inv out B w π H)(i:Nat)(E:w'.heap=w.heap)(S:w'.os=w.os)(T:w'.tape=w.tape)(hu:w'.output=w.output)(U:Dr.d=true->w.drawn<=w'.drawn):
  Ext B w w' (aY out π H) (aY out π (H.set i .dead)) π π/\Inv out B w' π (H.set i .dead):=by
 have O:Ext B w w' (aY out π H) (aY out π (H.set i .dead)) π π:=by
  refine⟨fun b _=>by rw[E],by rw[E];exact Nat.le_refl _,fun b _ R=>⟨by rw[E],?_⟩,fun _ _ h=>h,S,T,hu,U⟩;rintro(I|⟨j,z,q,g1,g2,g3,g4⟩)
  ·exact R (.inl I)
  ·rcases dZ g1 with⟨rfl,rfl⟩|⟨_,C⟩
   ·simp[Blk.gr]at g2
   ·exact R (.inr ⟨j,z,q,C,g2,g3,g4⟩)
 refine⟨O,by simp[D.len],by rw[E];exact D.bound,D.out_lt,?_,?_,?_⟩
 ·intro j z q b g1 g2 g3;rcases dZ g1 with⟨rfl,rfl⟩|⟨_,C⟩
  ·exact g3.elim
  ·rw[E];exact D.baseO j z q b C g2 g3
 ·intro j z q g1 g2;rcases dZ g1 with⟨rfl,rfl⟩|⟨_,C⟩
  ·trivial
  ·exact fD.ext O (fun _ _=>by rw[E]) (D.ok j z q C g2)
 ·intro j k z t q r b J g1 g2 g3 g4 g5 g6 g7;rcases dZ g1 with⟨rfl,rfl⟩|⟨_,C⟩
  ·simp[Blk.gr]at g5
  ·rcases dZ g2 with⟨rfl,rfl⟩|⟨_,N⟩
   ·exact g7.elim
   ·exact D.sepO j k z t q r b J C N g3 g4 g5 g6 g7
theorem Inv.wX{out:Nat->Prop}{B:Nat->Prop}{w:World}{π:List (Option PB)}{H:List Blk}(D:Inv out B w π H){n:Nat}(R:n<=H.length)(T:∀q,π[n]?≠some (some q))(y:Blk):
  Ext B w w (aY out π H) (aY out (upd π n none) (upd H n y)) π (upd π n none)/\Inv out B w (upd π n none) (upd H n y):=by
 have U:=D.len;have split:∀{j:Nat} {z:Blk} {q:PB},(upd H n y)[j]?=some z->(upd π n none)[j]?=some (some q)->H[j]?=some z/\π[j]?=some (some q):=by
  intro j z q g1 g2;rcases iB R g1 with⟨rfl,rfl⟩|⟨Y,E⟩
  ·rcases iB (by omega) g2 with⟨_,e⟩|⟨I,_⟩
   ·cases e
   ·exact(I rfl).elim
  ·rcases iB (by omega) g2 with⟨e,_⟩|⟨_,J⟩
   ·exact(Y e).elim
   ·exact⟨E,J⟩
 have N:∀b,aY out (upd π n none) (upd H n y) b->aY out π H b:=by
  rintro b (C|⟨j,z,q,g1,g2,g3,g4⟩)
  ·exact .inl C
  ·obtain⟨f1,f2⟩:=split g1 g3;exact .inr ⟨j,z,q,f1,g2,f2,g4⟩
 have S:Ext B w w (aY out π H) (aY out (upd π n none) (upd H n y)) π (upd π n none):=⟨fun _ _=>rfl,Nat.le_refl _,fun b _ Z=>⟨rfl,fun C=>Z (N b C)⟩,fun j q h=>by
  rw[hU (by omega),if_neg]
  ·exact h
  ·rintro rfl;exact T q h,rfl,rfl,rfl,fun _=>Nat.le_refl _⟩
 refine⟨S,by rw[ew (by omega),ew R,U],D.bound,D.out_lt,?_,?_,?_⟩
 ·intro j z q b g1 g2 g3;obtain⟨f1,f2⟩:=split g1 g2;exact D.baseO j z q b f1 f2 g3
 ·intro j z q g1 g2;obtain⟨f1,f2⟩:=split g1 g2;exact fD.ext S (fun _ _=>rfl) (D.ok j z q f1 f2)
 ·intro j k z t q r b O g1 g2 g3 g4 g5 g6 g7;obtain⟨f1,f3⟩:=split g1 g3;obtain⟨f2,f4⟩:=split g2 g4;exact D.sepO j k z t q r b O f1 f2 f3 f4 g5 g6 g7
theorem Inv.grow{out:Nat->Prop}{B:Nat->Prop}{w w':World}{π:List (Option PB)}{H:List Blk}(I:Inv out B w π H){i:Nat}{x:Blk}{p:PB}(h1:H[i]?=some x)(hp:π[i]?=some (some p))(hm:x.gr=true)(y:Blk)(E:PB)(b0:E.blk=p.blk)
  {n:Nat} (hn:n<=H.length) (hf:∀q,π[n]?≠some (some q))
  (hs:w'.heap.size=w.heap.size) (hh:∀b,b≠p.blk->w'.heap[b]?=w.heap[b]?) (ho:w'.os=w.os) (ht:w'.tape=w.tape) (hu:w'.output=w.output) (hd:Dr.d=true->w.drawn<=w'.drawn)
  (hy:Ext B w w' (aY out π H) (aY out (upd π n (some E)) (upd (H.set i .dead) n y)) π (upd π n (some E))->fD w' (aY out (upd π n (some E)) (upd (H.set i .dead) n y)) (upd π n (some E)) E y)
  (N:∀b,y.owns E b->x.owns p b:=by first|exact fun _ h=>h|exact fun _ h=>h.elim):
  Ext B w w' (aY out π H) (aY out (upd π n (some E)) (upd (H.set i .dead) n y)) π (upd π n (some E))/\Inv out B w' (upd π n (some E)) (upd (H.set i .dead) n y):=by
 have hl:=I.len;have U:n<=(H.set i .dead).length:=by simpa using hn
 have split:∀{j:Nat} {z:Blk} {q:PB},(upd (H.set i .dead) n y)[j]?=some z->(upd π n (some E))[j]?=some (some q)->z.isLive=true->(j=n/\z=y/\q=E)\/(i≠j/\j≠n/\H[j]?=some z/\π[j]?=some (some q)):=by
  intro j z q g1 g2 g3;rcases iB U g1 with⟨rfl,rfl⟩|⟨hj,C⟩
  ·rcases iB (by omega) g2 with⟨_,e⟩|⟨a1,_⟩
   ·cases e;exact .inl ⟨rfl,rfl,rfl⟩
   ·exact(a1 rfl).elim
  ·rcases iB (by omega) g2 with⟨e,_⟩|⟨_,D⟩
   ·exact(hj e).elim
   ·rcases dZ C with⟨rfl,rfl⟩|⟨J,Y⟩
    ·simp[Blk.isLive]at g3
    ·exact .inr ⟨J,hj,Y,D⟩
 have hE:Ext B w w' (aY out π H) (aY out (upd π n (some E)) (upd (H.set i .dead) n y)) π (upd π n (some E)):=by
  refine⟨fun b T=>hh b (by rintro rfl;exact(I.base i x p h1 hp (Blk.df hm)).1 T),by omega,fun b T O=>?_,fun j q h=>?_,ho,ht,hu,hd⟩
  ·have a6:b≠p.blk:=fun e=>O (.inr ⟨i,x,p,h1,hm,hp,by rw[e];exact Blk.oX (Blk.df hm)⟩)
   refine⟨hh b a6,?_⟩;rintro(a7|⟨j,z,q,g1,g2,g3,g4⟩)
   ·exact O (.inl a7)
   ·rcases split g1 g3 (Blk.df g2)with⟨_,rfl,rfl⟩|⟨_,_,C,R⟩
    ·exact O (.inr ⟨i,x,p,h1,hm,hp,N b g4⟩)
    ·exact O (.inr ⟨j,z,q,C,g2,R,g4⟩)
  ·rw[hU (by omega),if_neg]
   ·exact h
   ·rintro rfl;exact hf q h
 refine⟨hE,by rw[ew (by omega),ew U,List.length_set,hl],fun b T=>by have:=I.bound b T;omega,I.out_lt,?_,?_,?_⟩
 ·intro j z q b g1 g2 g3;rcases split g1 g2 (Blk.eY g3)with⟨_,rfl,rfl⟩|⟨_,_,C,D⟩
  ·have:=I.baseO i x p b h1 hp (N b g3);exact⟨this.1,by omega⟩
  ·have:=I.baseO j z q b C D g3;exact⟨this.1,by omega⟩
 ·intro j z q g1 g2;cases hz:z.isLive with
  |false=>cases z<;>simp_all [Blk.isLive,fD]
  |true=>
   rcases split g1 g2 hz with⟨_,rfl,rfl⟩|⟨J,_,C,D⟩
   ·exact hy hE
   ·exact fD.ext hE (fun b T=>hh _ (fun e=>I.sepO i j x z p q b J h1 C hp D hm (by rw[e];exact Blk.oX (Blk.df hm)) T)) (I.ok j z q C D)
 ·intro j k z t q r b a8 g1 g2 g3 g4 g5 g6 g7;rcases split g1 g3 (Blk.df g5)with⟨hj,rfl,rfl⟩|⟨J,_,C,R⟩
  ·rcases split g2 g4 (Blk.eY g7)with⟨hk,_,_⟩|⟨Z,_,D,S⟩
   ·omega
   ·exact I.sepO i k x t p r b Z h1 D hp S hm (N b g6) g7
  ·rcases split g2 g4 (Blk.eY g7)with⟨hk,rfl,rfl⟩|⟨Z,_,D,S⟩
   ·exact I.sepO j i z x q p b (fun e=>J e.symm) C h1 R hp g5 g6 (N b g7)
   ·exact I.sepO j k z t q r b a8 C D R S g5 g6 g7
theorem Inv.move{out:Nat->Prop}{B:Nat->Prop}{w w':World}{π:List (Option PB)}{H:List Blk}(E:Inv out B w π H){i:Nat}{x:Blk}{p:PB}(h1:H[i]?=some x)(hp:π[i]?=some (some p))(hm:x.gr=true)(y:Blk)(I:PB)
  {n:Nat} (hn:n<=H.length) (hf:∀q,π[n]?≠some (some q))
  (hs:w.heap.size<=w'.heap.size) (hh:∀b,b<w.heap.size->¬x.owns p b->w'.heap[b]?=w.heap[b]?) (ho:w'.os=w.os) (ht:w'.tape=w.tape) (hu:w'.output=w.output) (hd:Dr.d=true->w.drawn<=w'.drawn)
  (R:∀b,y.owns I b->x.owns p b\/(w.heap.size<=b/\b<w'.heap.size))
  (hy:Ext B w w' (aY out π H) (aY out (upd π n (some I)) (upd (H.set i .dead) n y)) π (upd π n (some I))->fD w' (aY out (upd π n (some I)) (upd (H.set i .dead) n y)) (upd π n (some I)) I y):
  Ext B w w' (aY out π H) (aY out (upd π n (some I)) (upd (H.set i .dead) n y)) π (upd π n (some I))/\Inv out B w' (upd π n (some I)) (upd (H.set i .dead) n y):=by
 have hl:=E.len;have U:n<=(H.set i .dead).length:=by simpa using hn
 have split:∀{j:Nat} {z:Blk} {q:PB},(upd (H.set i .dead) n y)[j]?=some z->(upd π n (some I))[j]?=some (some q)->z.isLive=true->(j=n/\z=y/\q=I)\/(i≠j/\j≠n/\H[j]?=some z/\π[j]?=some (some q)):=by
  intro j z q g1 g2 g3;rcases iB U g1 with⟨rfl,rfl⟩|⟨hj,C⟩
  ·rcases iB (by omega) g2 with⟨_,e⟩|⟨a1,_⟩
   ·cases e;exact .inl ⟨rfl,rfl,rfl⟩
   ·exact(a1 rfl).elim
  ·rcases iB (by omega) g2 with⟨e,_⟩|⟨_,D⟩
   ·exact(hj e).elim
   ·rcases dZ C with⟨rfl,rfl⟩|⟨J,Y⟩
    ·simp[Blk.isLive]at g3
    ·exact .inr ⟨J,hj,Y,D⟩
 have hE:Ext B w w' (aY out π H) (aY out (upd π n (some I)) (upd (H.set i .dead) n y)) π (upd π n (some I)):=by
  refine⟨fun b N=>hh b (E.bound b N) (fun h=>(E.baseO i x p b h1 hp h).1 N),hs,fun b N S=>?_,fun j q h=>?_,ho,ht,hu,hd⟩
  ·refine⟨hh b N (fun h=>S (.inr ⟨i,x,p,h1,hm,hp,h⟩)),?_⟩;rintro(a6|⟨j,z,q,g1,g2,g3,g4⟩)
   ·exact S (.inl a6)
   ·rcases split g1 g3 (Blk.df g2)with⟨_,rfl,rfl⟩|⟨_,_,C,O⟩
    ·rcases R b g4 with h|h
     ·exact S (.inr ⟨i,x,p,h1,hm,hp,h⟩)
     ·omega
    ·exact S (.inr ⟨j,z,q,C,g2,O,g4⟩)
  ·rw[hU (by omega),if_neg]
   ·exact h
   ·rintro rfl;exact hf q h
 refine⟨hE,by rw[ew (by omega),ew U,List.length_set,hl],fun b N=>by have:=E.bound b N;omega,E.out_lt,?_,?_,?_⟩
 ·intro j z q b g1 g2 g3;rcases split g1 g2 (Blk.eY g3)with⟨_,rfl,rfl⟩|⟨_,_,C,D⟩
  ·rcases R b g3 with h|h
   ·have:=E.baseO i x p b h1 hp h;exact⟨this.1,by omega⟩
   ·exact⟨fun N=>by have:=E.bound b N;omega,h.2⟩
  ·have:=E.baseO j z q b C D g3;exact⟨this.1,by omega⟩
 ·intro j z q g1 g2;cases hz:z.isLive with
  |false=>cases z<;>simp_all [Blk.isLive,fD]
  |true=>
   rcases split g1 g2 hz with⟨_,rfl,rfl⟩|⟨J,_,C,D⟩
   ·exact hy hE
   ·exact fD.ext hE (fun b N=>hh _ (E.baseO j z q b C D N).2 (fun e=>E.sepO i j x z p q b J h1 C hp D hm e N)) (E.ok j z q C D)
 ·intro j k z t q r b a7 g1 g2 g3 g4 g5 g6 g7;rcases split g1 g3 (Blk.df g5)with⟨hj,rfl,rfl⟩|⟨J,_,C,O⟩
  ·rcases split g2 g4 (Blk.eY g7)with⟨hk,_,_⟩|⟨Z,_,D,T⟩
   ·omega
   ·rcases R b g6 with h|h
    ·exact E.sepO i k x t p r b Z h1 D hp T hm h g7
    ·have:=(E.baseO k t r b D T g7).2;omega
  ·rcases split g2 g4 (Blk.eY g7)with⟨hk,rfl,rfl⟩|⟨Z,_,D,T⟩
   ·rcases R b g7 with h|h
    ·exact E.sepO j i z x q p b (fun e=>J e.symm) C h1 O hp g5 g6 h
    ·have:=(E.baseO j z q b C O g6).2;omega
   ·exact E.sepO j k z t q r b a7 C D O T g5 g6 g7
theorem RvW.av{w:World}{mu:Nat->Prop}{π:List (Option PB)}:∀(rs:List RC) (j:Nat->Option (Nat×Nat×Nat)) (b o i:Nat) (A:AV),RvW w mu π rs j b o->rs[i]?=some (.av A)->∃v,w.cell? ⟨b,o+i,none⟩=some v/\v.oneCell'=true/\Rv w mu π A v
 |[],_,_,_,i,A,_,hc=>by simp at hc
 |.row len es cs::rs,j,b,o,0,A,h,hc=>by simp at hc
 |.av q::rs,j,b,o,0,A,h,hc=>by
  simp only[List.getElem?_cons_zero,Option.some.injEq,RC.av.injEq]at hc;subst hc;exact h.1
 |.row len es cs::rs,j,b,o,i+1,A,h,hc=>by
  have:=RvW.av rs _ b (o+1) i A h.2 (by simpa using hc);rwa[show o+1+i=o+(i+1)by omega]at this
 |.av q::rs,j,b,o,i+1,A,h,hc=>by
  have:=RvW.av rs _ b (o+1) i A h.2 (by simpa using hc);rwa[show o+1+i=o+(i+1)by omega]at this
theorem RvW.row{w:World}{mu:Nat->Prop}{π:List (Option PB)}:∀(rs:List RC) (j:Nat->Option (Nat×Nat×Nat)) (b o i len es:Nat) (cs:List AV),RvW w mu π rs j b o->rs[i]?=some (.row len es cs)->∃v,w.cell? ⟨b,o+i,none⟩=some v/\tU w mu (j i) len es cs v
 |[],_,_,_,i,_,_,_,_,hc=>by simp at hc
 |.row q es' cs'::rs,j,b,o,0,len,es,cs,h,hc=>by
  simp only[List.getElem?_cons_zero,Option.some.injEq,RC.row.injEq]at hc;obtain⟨rfl,rfl,rfl⟩:=hc;exact h.1
 |.av z::rs,j,b,o,0,len,es,cs,h,hc=>by simp at hc
 |.row q es' cs'::rs,j,b,o,i+1,len,es,cs,h,hc=>by
  have:=RvW.row rs _ b (o+1) i len es cs h.2 (by simpa using hc);rwa[show o+1+i=o+(i+1)by omega]at this
 |.av z::rs,j,b,o,i+1,len,es,cs,h,hc=>by
  have:=RvW.row rs _ b (o+1) i len es cs h.2 (by simpa using hc);rwa[show o+1+i=o+(i+1)by omega]at this
def RcV(w:World)(mu:Nat->Prop)(π:List (Option PB))(s:Option (Nat×Nat×Nat)):RC->Value->Prop
 |.row len es cs,v=>tU w mu s len es cs v
 |.av A,v=>v.oneCell'=true/\Rv w mu π A v
theorem RvW.of{w:World}{mu:Nat->Prop}{π:List (Option PB)}:∀(rs:List RC) (j:Nat->Option (Nat×Nat×Nat)) (b o:Nat),(∀(i:Nat) (x:RC),rs[i]?=some x->∃v,w.cell? ⟨b,o+i,none⟩=some v/\RcV w mu π (j i) x v)->RvW w mu π rs j b o
 |[],_,_,_,_=>trivial
 |.row len es cs::rs,j,b,o,h=>⟨by simpa [RcV]using h 0 _ rfl,RvW.of rs _ b (o+1) fun i x q=>by
   have:=h (i+1) x (by simpa using q);rwa[show o+(i+1)=o+1+i by omega]at this⟩
 |.av A::rs,j,b,o,h=>⟨by simpa [RcV]using h 0 _ rfl,RvW.of rs _ b (o+1) fun i x q=>by
   have:=h (i+1) x (by simpa using q);rwa[show o+(i+1)=o+1+i by omega]at this⟩
theorem RvW.at{w:World}{mu:Nat->Prop}{π:List (Option PB)}{rs:List RC}{j:Nat->Option (Nat×Nat×Nat)}{b o:Nat}(h:RvW w mu π rs j b o){i:Nat}{x:RC}(q:rs[i]?=some x):∃v,w.cell? ⟨b,o+i,none⟩=some v/\RcV w mu π (j i) x v:=by
 cases x with
 |row len es cs=>exact RvW.row rs j b o i len es cs h q
 |av A=>obtain⟨v,h1,z,C⟩:=RvW.av rs j b o i A h q;exact⟨v,h1,z,C⟩
theorem RcV.one{w:World}{mu:Nat->Prop}{π:List (Option PB)}{s:Option (Nat×Nat×Nat)}{x:RC}{v:Value}(h:RcV w mu π s x v):v.oneCell'=true:=by
 cases x with
 |row len es cs=>rcases h with⟨_,_,rfl⟩|⟨q,a,cap,c,e,_,rfl,_⟩<;>rfl
 |av A=>exact h.1
theorem RcV.ext{B:Nat->Prop}{w w':World}{mu mu':Nat->Prop}{π π':List (Option PB)}(h:Ext B w w' mu mu' π π'){s:Option (Nat×Nat×Nat)}{x:RC}{v:Value}(hs:∀len es cs q,x=.row len es cs->s=some q->w'.heap[q.1]?=w.heap[q.1]?)(j:RcV w mu π s x v):RcV w' mu' π' s x v:=by
 cases x with
 |row len es cs=>exact tU.ext h (fun q e=>hs len es cs q rfl e) j
 |av A=>exact⟨j.1,Rv.ext h A v j.2⟩
theorem RvW.bound{w:World}{mu:Nat->Prop}{π:List (Option PB)}{rs:List RC}{j:Nat->Option (Nat×Nat×Nat)}{b o:Nat}{c:Array Value}{e:TypeId}{f:Nat×Nat}(h:RvW w mu π rs j b o)(q:w.heap[b]?=some (.cells c e f)){i:Nat}(hi:i<rs.length):
  o+i<c.size:=by
 obtain⟨v,h1,_⟩:=RvW.at h (List.getElem?_eq_getElem hi);simp only[World.cell?,q]at h1;exact(Array.getElem?_eq_some_iff.1 (by simpa using h1)).1
theorem RvW.Ht{w:World}{mu:Nat->Prop}{π:List (Option PB)}{rs:List RC}{C:Nat->Option (Nat×Nat×Nat)}{b o:Nat}(h:RvW w mu π rs C b o)(n:Nat)(N:n<=rs.length):
  ∃os:List Value,os.length=n/\(∀u∈os,u.oneCell'=true)/\∀j u,os[j]?=some u->w.cell? ⟨b,o+j,none⟩=some u/\∃x,rs[j]?=some x/\RcV w mu π (C j) x u:=by
 have key:∀j,j<n->∃u,w.cell? ⟨b,o+j,none⟩=some u/\∃x,rs[j]?=some x/\RcV w mu π (C j) x u:=by
  intro j E;have z:j<rs.length:=by omega
  obtain⟨u,h1,I⟩:=RvW.at h (List.getElem?_eq_getElem z);exact⟨u,h1,_,List.getElem?_eq_getElem z,I⟩
 have get:∀j u,((List.range n).map fun j=>(w.cell? ⟨b,o+j,none⟩).getD default)[j]?=some u->w.cell? ⟨b,o+j,none⟩=some u/\∃x,rs[j]?=some x/\RcV w mu π (C j) x u:=by
  intro j u hu;rw[List.getElem?_map]at hu;cases D:(List.range n)[j]? with
  |none=>rw[D]at hu;cases hu
  |some k=>
   have q:j<n:=by have:=aW D;simpa using this
   rw[List.getElem?_range q]at D;cases D;obtain⟨v,v1,v2⟩:=key j q;rw[List.getElem?_range q,Option.map_some,v1]at hu;cases hu;exact⟨v1,v2⟩
 refine⟨(List.range n).map fun j=>(w.cell? ⟨b,o+j,none⟩).getD default,by simp,fun u hu=>?_,get⟩;obtain⟨j,E⟩:=List.getElem?_of_mem hu;obtain⟨_,x,_,J⟩:=get j u E;exact J.one
theorem Rv.lift{w:World}{mu:Nat->Prop}{π:List (Option PB)}{A:AV}{v:Value}(h:Rv w mu [] A v):Rv w mu π A v:=
 Rv.ext (B:=fun _=>False) ⟨fun _ _=>rfl,Nat.le_refl _,fun _ _ h=>⟨rfl,h⟩,fun i p hp=>by simp at hp,rfl,rfl,rfl,fun _=>Nat.le_refl _⟩ A v h
theorem RvC.lift{w:World}{mu:Nat->Prop}{π:List (Option PB)}{cs:List AV}{b o:Nat}(h:RvC w mu [] cs b o):RvC w mu π cs b o:=
 RvC.ext (B:=fun _=>False) ⟨fun _ _=>rfl,Nat.le_refl _,fun _ _ h=>⟨rfl,h⟩,fun i p hp=>by simp at hp,rfl,rfl,rfl,fun _=>Nat.le_refl _⟩ cs b o rfl h
end Go.Eng


namespace Go.Eng
open Go
variable[Dr]
def jf{α:Type}(P:Program):Sem α->Option α
 |.pure a=>some a
 |.program k=>jf P (k P)
 |.mark _ k=>jf P k
 |_=>none
theorem ij{α:Type}{P:Program}{s:Sem α}{a:α}(h:jf P s=some a)(w:World):s.run P w=.ok a w:=by
 induction s with
 |pure b=>simp[jf]at h;subst h;rfl
 |program k j=>exact j P (by simpa [jf]using h)
 |mark m k j=>exact j (by simpa [jf]using h)
 |_=>simp[jf]at h
mutual
def toV:AV->Option Value
 |.at v=>some v
 |.agg cs=>match Ad cs with|some l=>some (.agg l.toArray)|none=>none
 |_=>none
def Ad:List AV->Option (List Value)
 |[]=>some []
 |c::cs=>match toV c,Ad cs with|some v,some l=>some (v::l)|_,_=>none
end
mutual
theorem kq{w:World}{mu:Nat->Prop}{π:List (Option PB)}:(A:AV)->(v x:Value)->Rv w mu π A v->toV A=some x->v=x
 |.at y,v,x,h,e=>by simp[toV]at e;subst e;exact h
 |.agg cs,v,x,h,e=>by
  obtain⟨vs,rfl,j⟩:=h;simp only[toV]at e;split at e
  ·rename_i l q;cases e;have:=pz cs vs.toList l j q;rw[<-this]
  ·cases e
 |.unk,_,_,_,e|.sl ..,_,_,_,e|.pp ..,_,_,_,e|.hs ..,_,_,_,e|.hc ..,_,_,_,e|.hp ..,_,_,_,e|.mp ..,_,_,_,e|.tup ..,_,_,_,e|.fn ..,_,_,_,e=>by simp[toV]at e
theorem pz{w:World}{mu:Nat->Prop}{π:List (Option PB)}:(cs:List AV)->(vs l:List Value)->RvL w mu π cs vs->Ad cs=some l->vs=l
 |[],vs,l,h,e=>by simp[Ad]at e;subst e;exact h
 |c::cs,vs,l,h,e=>by
  obtain⟨v,j,rfl,h1,z⟩:=h;simp only[Ad]at e;split at e
  ·rename_i y C D q;cases e;rw[kq c v y h1 D,pz cs j C z q]
  ·cases e
end
def fW(P:Program)(t:TypeId):Option Nat:=match P.info? t with|some i=>some i.size|none=>none
def pF(P:Program)(t:TypeId):Option Nat:=match P.info? t with|some i=>some i.bytes|none=>none
def Bj(P:Program)(t:TypeId):Option Bool:=match P.underlying t with|some (.struct _)=>some true|some (.array _ _)=>some true|some _=>some false|none=>none
def mh(P:Program)(t:TypeId):Option (List AV):=match P.info? t with|some i=>(match i.zero with|some z=>some (z.cells.toList.map .at)|none=>none)|none=>none
def cellsOf:AV->List AV
 |.agg cs=>cs
 |.at (.agg a)=>a.toList.map .at
 |x=>[x]
def gU:AV->Bool
 |.unk|.agg _|.tup _=>false
 |.at v=>v.oneCell'
 |_=>true
theorem ia{w:World}{mu:Nat->Prop}{π:List (Option PB)}{A:AV}{v:Value}(h:Rv w mu π A v)(hc:gU A=true):v.oneCell'=true:=by
 cases A<;>simp only[gU,Rv]at h hc
 case «at» x=>subst h;exact hc
 case sl nl cs len=>rcases h with⟨_,_,_,rfl⟩|⟨b,o,cap,rfl,_⟩|⟨_,_,a,cap,rfl⟩<;>rfl
 case pp cs off=>obtain⟨b,o,rfl,_⟩:=h;rfl
 case hs=>rcases h with⟨_,rfl⟩|⟨p,a,cap,_,rfl,_⟩<;>rfl
 case hc=>obtain⟨p,_,_,rfl,_⟩:=h;rfl
 case hp=>obtain⟨p,_,rfl⟩:=h;rfl
 case mp=>obtain⟨p,_,rfl⟩:=h;rfl
 case fn=>obtain⟨a,c,rfl,_⟩:=h;rfl
 all_goals simp at hc
theorem gJ{w:World}{mu:Nat->Prop}{π:List (Option PB)}:∀(l:List Value),RvL w mu π (l.map .at) l
 |[]=>rfl
 |v::l=>⟨v,l,rfl,rfl,gJ l⟩
theorem nP{w:World}{mu:Nat->Prop}{π:List (Option PB)}{A:AV}{v:Value}(h:Rv w mu π A v)(hc:(cellsOf A).all gU=true):
  RvL w mu π (cellsOf A) v.cells.toList/\∀u∈v.cells.toList,u.oneCell'=true:=by
 have key:RvL w mu π (cellsOf A) v.cells.toList:=by
  have one:∀{A:AV} {v:Value},Rv w mu π A v->v.oneCell'=true->RvL w mu π [A] v.cells.toList:=by
   intro A v h h1;have z:v.cells=#[v]:=by cases v<;>simp_all [Value.cells,Value.oneCell']
   rw[z];exact⟨v,[],rfl,h,rfl⟩
  cases A with
  |agg cs=>obtain⟨vs,rfl,j⟩:=h;exact j
  |«at» x=>
   cases x with
   |agg a=>cases h;exact gJ a.toList
   |_=>exact one h (ia h (by simpa [cellsOf]using hc))
  |unk=>simp[cellsOf,gU]at hc
  |tup=>simp[cellsOf,gU]at hc
  |sl nl cs len=>exact one h (ia h rfl)
  |pp=>exact one h (ia h rfl)
  |hs=>exact one h (ia h rfl)
  |hc=>exact one h (ia h rfl)
  |hp=>exact one h (ia h rfl)
  |mp=>exact one h (ia h rfl)
  |fn=>exact one h (ia h rfl)
 refine⟨key,?_⟩;generalize cellsOf A=cs at*;generalize v.cells.toList=vs at*;clear h;induction cs generalizing vs with
 |nil=>cases key;simp
 |cons c cs C=>
  obtain⟨u,us,rfl,h1,j⟩:=key;simp only[List.all_cons,Bool.and_eq_true]at hc;intro x q;rcases List.mem_cons.1 q with rfl|q
  ·exact ia h1 hc.1
  ·exact C hc.2 us j x q
def setCells:List AV->Nat->List AV->List AV
 |cs,_,[]=>cs
 |cs,off,x::xs=>setCells (cs.set off x) (off+1) xs
def tH(place:Nat->Option (Nat×Nat))(cells:List AV):List (Nat×AV)->Option (List AV)
 |[]=>some cells
 |(i,x)::rest=>
  match place i with
  |none=>none
  |some (off,size)=>
   match decide ((cellsOf x).length=size)&&decide (off+(cellsOf x).length<=cells.length)&&(cellsOf x).all gU with
   |true=>tH place (setCells cells off (cellsOf x)) rest
   |false=>none
def qF(P:Program)(t:TypeId)(cs:List AV)(off:Nat):Option AV:=
 match Bj P t with
 |some true=>(match fW P t with|some n=>some (.agg ((cs.drop off).take n))|none=>none)
 |some false=>cs[off]?
 |none=>none
def GF:Option RC->Option AV
 |some (.av A)=>some A
 |_=>none
def cellAt(H:List Blk):AV->Option AV
 |.hp i off=>match H[i]? with|some (.own cs)=>cs[off]?|some (.fix cs)=>cs[off]?|some (.rows rs)=>GF rs[off]?|_=>none
 |.pp cs off=>cs[off]?
 |_=>none
def oW(H:List Blk):AV->Option (List AV)
 |.hp i off=>match H[i]? with|some (.own cs)=>some (cs.drop off)|some (.fix cs)=>some (cs.drop off)|_=>none
 |.pp cs off=>some (cs.drop off)
 |_=>none
def yG(P:Program)(H:List Blk)(t:TypeId)(a:AV):Option AV:=
 match Bj P t with
 |some true=>(match fW P t,oW H a with|some n,some cs=>(match decide (n<=cs.length)with|true=>some (.agg (cs.take n))|false=>none)|_,_=>none)
 |some false=>cellAt H a
 |none=>none
def zx(P:Program)(H:List Blk)(t:TypeId)(a x:AV):Option (List (Nat×Blk)):=
 match a with
 |.hp i off=>match H[i]?,fW P t with
  |some (.own cs),some n=>(match decide ((cellsOf x).length=n)&&decide (off+n<=cs.length)&&(cellsOf x).all gU with|true=>some [(i,.own (setCells cs off (cellsOf x)))]|false=>none)
  |some (.rows rs),some n=>(match cellsOf x with|[y]=>(match decide (n=1)&&decide (off<rs.length)&&gU y with|true=>some [(i,.rows (rs.set off (.av y)))]|false=>none)|_=>none)
  |_,_=>none
 |_=>none
def kS(H:List Blk)(es:Nat):AV->Option (List AV×Nat)
 |.at (.slice none 0 0)=>some ([],0)
 |.sl _ cs len=>(match decide (cs.length=len*es)with|true=>some (cs,len)|false=>none)
 |.hs i off len _=>match H[i]? with
  |some (.own cs)=>(match decide (off+len*es<=cs.length)with|true=>some ((cs.drop off).take (len*es),len)|false=>none)
  |some (.fix cs)=>(match decide (off+len*es<=cs.length)with|true=>some ((cs.drop off).take (len*es),len)|false=>none)
  |_=>none
 |_=>none
def Ba:AV->Option Int|.at (.int _ n)=>some n|_=>none
def AL:AV->Option (IntKind×Int)|.at (.int k n)=>some (k,n)|_=>none
def CI(n:Nat):AV->Option AV
 |.hp i off=>some (.hp i (off+n))
 |.pp cs off=>some (.pp cs (off+n))
 |_=>none
def uv(P:Program)(t:TypeId)(x ix:AV):Option AV:=
 match P.underlying t,Ba ix with
 |some (.slice e),some i=>(match fW P e,x with
  |some n,.sl _ cs len=>(match decide (0<=i)&&decide (i<len)with|true=>some (.pp cs (i.toNat*n))|false=>none)
  |some n,.hs b off len _=>(match decide (0<=i)&&decide (i<len)with|true=>some (.hp b (off+i.toNat*n))|false=>none)
  |_,_=>none)
 |some (.array len e),some i=>(match fW P e with
  |some n=>(match decide (0<=i)&&decide (i<len)with|true=>CI (i.toNat*n) x|false=>none)
  |none=>none)
 |_,_=>none
def tW(P:Program)(s:TypeId)(x:AV)(f:Nat):Option AV:=
 match P.underlying s with
 |some (.struct j)=>(match j[f]? with
  |some fd=>(match fW P fd.type with|some 0=>none|some _=>CI fd.offset x|none=>none)
  |none=>none)
 |_=>none
def BF(P:Program)(s:TypeId)(x:AV)(f:Nat):Option AV:=
 match P.underlying s,x with
 |some (.struct j),.agg cs=>(match j[f]? with|some fd=>qF P fd.type cs fd.offset|none=>none)
 |some (.struct j),.at (.agg a)=>(match j[f]? with|some fd=>qF P fd.type (a.toList.map .at) fd.offset|none=>none)
 |_,_=>none
def xi(P:Program)(t:TypeId)(x ix:AV):Option AV:=
 match P.underlying t,x,Ba ix with
 |some (.array len e),.agg cs,some i=>(match fW P e,decide (0<=i)&&decide (i<len)with|some n,true=>qF P e cs (i.toNat*n)|_,_=>none)
 |some (.array len e),.at (.agg a),some i=>(match fW P e,decide (0<=i)&&decide (i<len)with|some n,true=>qF P e (a.toList.map .at) (i.toNat*n)|_,_=>none)
 |some .string,.at s,some _=>(match toV ix with|some i=>(jf P (Instr.index t s i)).map .at|none=>none)
 |_,_,_=>none
def rF(len:Nat)(lo hi:Option AV):Option (Nat×Nat):=
 match (match lo with|none=>some 0|some a=>Ba a),(match hi with|none=>some (len:Int)|some a=>Ba a)with
 |some l,some h=>(match decide (0<=l)&&decide (l<=h)&&decide (h<=len)with|true=>some (l.toNat,h.toNat)|false=>none)
 |_,_=>none
def vM(P:Program)(H:List Blk)(t:TypeId)(x:AV)(lo hi:Option AV):Option AV:=
 match P.underlying t with
 |some (.slice e)=>(match fW P e,x with
  |some n,.sl nl cs len=>(match rF len lo hi with|some (l,h)=>some (.sl nl ((cs.drop (l*n)).take ((h-l)*n)) (h-l))|none=>none)
  |some n,.hs b off len es=>(match rF len lo hi,decide (es=n)with|some (l,h),true=>some (.hs b (off+l*n) (h-l) n)|_,_=>none)
  |some _,.at (.slice none 0 0)=>(match rF 0 lo hi with|some _=>some (.at (.slice none 0 0))|none=>none)
  |_,_=>none)
 |some (.array len e)=>(match fW P e,x with
  |some n,.hp b off=>(match rF len lo hi,H[b]? with
   |some (l,h),some (.own cs)=>(match decide (off+len*n<=cs.length)&&decide (0<n)with|true=>some (.hs b (off+l*n) (h-l) n)|false=>none)
   |_,_=>none)
  |some n,.pp cs off=>(match rF len lo hi with|some (l,h)=>some (.sl false ((cs.drop (off+l*n)).take ((h-l)*n)) (h-l))|none=>none)
  |_,_=>none)
 |_=>none
def eu(z:List AV):Nat->List AV
 |0=>[]
 |n+1=>z++eu z n
def zh(P:Program)(t:TypeId)(a:AV)(v:Value):Bool:=
 match P.underlying t,a,v with
 |some (.slice _),.sl nl _ len,.slice none 0 0=>!nl||decide (0<len)
 |some (.slice _),.hs _ _ len _,.slice none 0 0=>decide (0<len)
 |some (.pointer _),.hp _ _,.pointer none=>true
 |some (.pointer _),.pp _ _,.pointer none=>true
 |_,_,_=>false
inductive ct where
 |pure (v:AV)
 |eff (v:AV) (ws:List (Nat×Blk))
 |call (f:FuncId) (args:List AV)
def ct.ofP:Option AV->Option ct|some v=>some (.pure v)|none=>none
def bj(H:List Blk):List (Nat×Blk)->List Blk
 |[]=>H
 |(i,x)::ws=>bj (upd H i x) ws
def kE(H:List Blk)(nid n bytes:Nat)(s x:AV):Option ct:=
 match kS H n x with
 |none=>none
 |some (new,m)=>
  match s with
  |.at (.slice none 0 0)=>(match decide (m*bytes<=140737488355328)&&decide (m<=4611686018427387904)&&decide (0<n)with
   |true=>some (.eff (.hs nid 0 m n) [(nid,.own new)])
   |false=>none)
  |.sl nl cs len=>(match decide (m=0)with|true=>some (.pure (.sl nl cs len))|false=>none)
  |.hs i off len es=>match H[i]? with
   |some (.own cs)=>(match decide (es=n)&&decide (0<n)&&decide (off+len*n<=cs.length)&&decide ((len+m)*bytes<=140737488355328)&&decide (len+m<=4611686018427387904)with
    |true=>some (.eff (.hs nid 0 (len+m) n) [(i,.dead),(nid,.own ((cs.drop off).take (len*n)++new))])
    |false=>none)
   |some (.rows rs)=>(match decide (es=n)&&decide (n=1)&&decide (off=0)&&decide (len<=rs.length)&&decide ((len+m)*bytes<=140737488355328)&&decide (len+m<=4611686018427387904)&&decide (0<m)with
    |true=>some (.eff (.hs nid 0 (len+m) n) [(i,.dead),(nid,.rows (rs.take len++new.map .av))])
    |false=>none)
   |_=>none
  |.hc i off len cap es=>match H[i]? with
   |some (.own cs)=>(match decide (es=n)&&decide (0<n)&&decide (0<m)&&decide (off=0)&&decide (len*n<=cs.length)&&decide ((len+m)*bytes<=140737488355328)&&decide (len+m<=4611686018427387904)with
    |true=>(match decide (len+m<=cap)with
     |true=>some (.eff (.hs i 0 (len+m) n) [(i,.own (cs.take (len*n)++new))])
     |false=>some (.eff (.hs nid 0 (len+m) n) [(nid,.own (cs.take (len*n)++new))]))
    |false=>none)
   |_=>none
  |_=>none
def vb(nid n bytes:Nat)(z:List AV)(s x:AV):Option ct:=
 match s,x with
 |.at (.slice none 0 0),.at (.int .i64 k)=>(match decide (0<k)&&decide (k<=4611686018427387904)&&decide (k.toNat*bytes<=140737488355328)&&decide (0<n)&&decide (z.length=n)&&z.all gU with
  |true=>some (.eff (.hs nid 0 k.toNat n) [(nid,.own (eu z k.toNat))])
  |false=>none)
 |_,_=>none
def wkN(a:AV):AV:=
 match a with
 |.at (.slice none 0 0)=>.sl true [] 0
 |_=>a
def tO(H:List Blk)(n:Nat)(z:List AV)(d:AV):Option ct:=
 match d with
 |.hs i off len es=>(match H[i]? with
  |some (.own cs)=>(match decide (es=n)&&decide (off+len*n<=cs.length)&&decide (z.length=n)&&z.all gU&&decide (0<n)with
   |true=>some (.eff (.at (.tuple #[])) [(i,.own (setCells cs off (eu (z.map wkN) len)))])
   |false=>none)
  |_=>none)
 |_=>none
def GN(P:Program)(t:TypeId)(x:AV):Option AV:=
 match P.underlying t,x with
 |some (.slice _),.sl _ _ len=>some (.at (.int .i64 len))
 |some (.slice _),.hs _ _ len _=>some (.at (.int .i64 len))
 |some (.slice _),.at (.slice none 0 0)=>some (.at (.int .i64 0))
 |some .string,.at (.string s)=>some (.at (.int .i64 s.size))
 |some (.array n _),_=>some (.at (.int .i64 n))
 |_,_=>none
def xX:IntKind->Int->Bool
 |.i64,n=>decide (-9223372036854775808<=n)&&decide (n<=9223372036854775807)
 |.u64,n=>decide (0<=n)&&decide (n<=18446744073709551615)
 |.u32,n=>decide (0<=n)&&decide (n<=4294967295)
 |.u8,n=>decide (0<=n)&&decide (n<=255)
 |_,_=>false
def af(k:IntKind)(n:Int):Int:=match xX k n with|true=>n|false=>k.wrap n
abbrev Hy(n:Int):Int:=af IntKind.i64 n
theorem ke(k:IntKind)(n:Int):af k n=k.wrap n:=by
 (try unfold Hy);unfold af;split
 ·rename_i h;cases k<;>simp only[xX,Bool.and_eq_true,decide_eq_true_eq,Bool.false_eq_true]at h
  ·rw[IntKind.wrap_i64];omega
  ·rw[IntKind.wrap_u8];omega
  ·rw[IntKind.wrap_u32];omega
  ·rw[IntKind.wrap_u64];omega
 ·rfl
def uh(op:BinOp)(k:IntKind)(x y:Int):Option Value:=
 match op with
 |.add=>some (.int k (af k (x+y)))
 |.sub=>some (.int k (af k (x-y)))
 |.mul=>some (.int k (af k (x*y)))
 |.quo=>(match decide (y=0)with|true=>none|false=>some (.int k (af k (x.tdiv y))))
 |.rem=>(match decide (y=0)with|true=>none|false=>some (.int k (x.tmod y)))
 |.eql=>some (.bool (x==y))
 |.neq=>some (.bool (x !=y))
 |.lss=>some (.bool (decide (x<y)))
 |.leq=>some (.bool (decide (x<=y)))
 |.gtr=>some (.bool (decide (x>y)))
 |.geq=>some (.bool (decide (x>=y)))
 |_=>none
theorem zj{P:Program}{op:BinOp}{t:TypeId}{a b:Operand}{k:IntKind}{x y:Int}{v:Value}(h:uh op k x y=some v)(w:World):
  (do eqGuard op t a b (.int k x) (.int k y);binOp op t (.int k x) (.int k y):Sem Value).run P w=.ok v w:=by
 have q:(eqGuard op t a b (.int k x) (.int k y)).run P w=.ok () w:=by cases op<;>simp[eqGuard]
 simp only[Sem.run_bind,q,Result.andThen_ok];cases op<;>simp only[uh]at h
 case add=>cases h;simp[binOp,Op.intArith,ke]
 case sub=>cases h;simp[binOp,Op.intArith,ke]
 case mul=>cases h;simp[binOp,Op.intArith,ke]
 case quo=>
  split at h
  ·cases h
  ·rename_i j;cases h;have:¬y=0:=by simpa using j
   simp[binOp,Op.intDiv,this,ke]
 case rem=>
  split at h
  ·cases h
  ·rename_i j;cases h;have:¬y=0:=by simpa using j
   simp[binOp,Op.intDiv,this]
 case eql=>cases h;simp[binOp,Op.intCmp]
 case neq=>cases h;simp[binOp,Op.intCmp]
 case lss=>cases h;simp[binOp,Op.intCmp]
 case leq=>cases h;simp[binOp,Op.intCmp]
 case gtr=>cases h;simp[binOp,Op.intCmp]
 case geq=>cases h;simp[binOp,Op.intCmp]
 all_goals cases h
def sZ(P:Program)(op:BinOp)(t:TypeId)(x y:Operand)(a b:AV):Option AV:=
 match toV a,toV b with
 |some u,some v=>(match jf P (do eqGuard op t x y u v;binOp op t u v)with|some r=>some (.at r)|none=>none)
 |none,some v=>(match zh P t a v,op with
  |true,.eql=>some (.at (.bool false))
  |true,.neq=>some (.at (.bool true))
  |_,_=>none)
 |_,_=>none
def IntKind.tJ:IntKind->IntKind->Bool
 |.i64,.i64|.u64,.u64|.u32,.u32|.u8,.u8|.i32,.i32|.i16,.i16|.i8,.i8|.u16,.u16=>true
 |_,_=>false
theorem IntKind.pZ{k l:IntKind}(h:IntKind.tJ k l=true):k=l:=by cases k<;>cases l<;>simp_all [IntKind.tJ]
def yl:AV->Option (List AV)
 |.agg cs=>some cs
 |.at (.agg a)=>some (a.toList.map .at)
 |_=>none
def Af(P:Program)(f:TypeId->AV->AV->Option Bool)(xs ys:List AV):List Field->Option Bool
 |[]=>some true
 |g::j=>match decide (g.name= "_")with
  |true=>Af P f xs ys j
  |false=>match qF P g.type xs g.offset,qF P g.type ys g.offset with
   |some a,some b=>(match f g.type a b,Af P f xs ys j with|some r,some s=>some (r&&s)|_,_=>none)
   |_,_=>none
def BS(P:Program)(f:AV->AV->Option Bool)(e:TypeId)(n:Nat)(xs ys:List AV):Nat->Nat->Option Bool
 |0,_=>some true
 |m+1,i=>match qF P e xs (i*n),qF P e ys (i*n)with
  |some a,some b=>(match f a b,BS P f e n xs ys m (i+1)with|some r,some s=>some (r&&s)|_,_=>none)
  |_,_=>none
def wc(P:Program):Nat->TypeId->AV->AV->Option Bool
 |0,_,_,_=>none
 |d+1,t,a,b=>match P.underlying t with
  |some (.int _)=>(match a,b with|.at (.int k x),.at (.int k' y)=>(match IntKind.tJ k k' with|true=>some (x==y)|false=>none)|_,_=>none)
  |some .bool=>(match a,b with|.at (.bool x),.at (.bool y)=>some (x==y)|_,_=>none)
  |some (.struct j)=>(match P.stoodInHeld t,yl a,yl b with|false,some xs,some ys=>Af P (wc P d) xs ys j.toList|_,_,_=>none)
  |some (.array n e)=>(match fW P e,yl a,yl b with|some k,some xs,some ys=>BS P (wc P d e) e k xs ys n 0|_,_,_=>none)
  |_=>none
def zF(P:Program)(op:BinOp)(t:TypeId)(a b:AV):Option AV:=
 match op,P.eqGuardType P.depth t,yl a,yl b with
 |.eql,false,some _,some _=>(match wc P 8 t a b with|some r=>some (.at (.bool r))|none=>none)
 |.neq,false,some _,some _=>(match wc P 8 t a b with|some r=>some (.at (.bool (!r)))|none=>none)
 |_,_,_,_=>none
def rI(P:Program)(op:BinOp)(t:TypeId)(x y:Operand)(a b:AV):Option AV:=
 match a,b with
 |.at (.int k m),.at (.int k' n)=>(match IntKind.tJ k k' with
  |true=>(match uh op k m n with|some r=>some (.at r)|none=>sZ P op t x y (.at (.int k m)) (.at (.int k' n)))
  |false=>sZ P op t x y (.at (.int k m)) (.at (.int k' n)))
 |.agg cs,b=>zF P op t (.agg cs) b
 |.at (.agg v),.agg cs=>zF P op t (.at (.agg v)) (.agg cs)
 |a,b=>sZ P op t x y a b
def DI(P:Program)(src dst:TypeId)(a:AV):Option Value:=
 match a with
 |.at (.int _ n)=>(match P.underlying src,P.underlying dst with
  |some _,some (.int k)=>some (.int k (af k n))
  |_,_=>none)
 |_=>none
def Dy(t:Bool):AV->AV->AV
 |.at (.bool x),.at (.bool y)=>.at (.bool (if t then x else y))
 |a,b=>if t then a else b
def Eu(f:Value->Option Value)(a:AV):Option ct:=
 match toV a with
 |some v=>(match f v with|some r=>some (.pure (.at r))|none=>none)
 |none=>none
def xW(H:List Blk)(n:Nat)(d x:AV):Option ct:=
 match kS H n x with
 |none=>none
 |some (new,m)=>match d with
  |.hs i off len es=>(match H[i]? with
   |some (.own cs)=>(match decide (es=n)&&decide (off+len*n<=cs.length)with
    |true=>some (.eff (.at (.int .i64 (Nat.min m len:Nat))) [(i,.own (setCells cs off (new.take (Nat.min m len*n))))])
    |false=>none)
   |_=>none)
  |_=>none
def Eg(P:Program)(H:List Blk)(t:TypeId)(x:AV):Option AV:=
 match P.underlying t,x with
 |some (.map _ _),.mp i=>(match H[i]? with|some (.map es)=>some (.at (.int .i64 (es.length:Nat)))|_=>none)
 |_,_=>none
def om(P:Program)(H:List Blk)(nid:Nat)(b:Builtin)(argTypes:Array TypeId)(type:TypeId)(args:List AV):Option ct:=
 match b,args with
 |.len,[x]=>(match argTypes[0]? with|some t=>(match GN P t x with|some v=>some (.pure v)|none=>ct.ofP (Eg P H t x))|none=>none)
 |.append,[s,x]=>(match argTypes[0]?,argTypes[1]? with
  |some t,some j=>(match P.underlying t,P.underlying j with
   |some (.slice e),some (.slice _)=>(match fW P e,pF P e,mh P e with|some n,some by_,some z=>(match decide (z.length=n)with|true=>kE H nid n by_ s x|false=>none)|_,_,_=>none)
   |some (.slice e),some (.int _)=>(match fW P e,pF P e,mh P e with|some n,some by_,some z=>vb nid n by_ z s x|_,_,_=>none)
   |_,_=>none)
  |_,_=>none)
 |.copy,[d,x]=>(match argTypes[0]? with
  |some t=>(match P.underlying t with
   |some (.slice e)=>(match fW P e with|some n=>xW H n d x|none=>none)
   |_=>none)
  |none=>none)
 |.clear,[d]=>(match argTypes[0]? with
  |some t=>(match P.underlying t with
   |some (.slice e)=>(match fW P e,mh P e with|some n,some z=>tO H n z d|_,_=>none)
   |_=>none)
  |none=>none)
 |.cap,args=>(match Ad args with|some vs=>(match jf P (Builtin.cap_ argTypes type vs.toArray)with|some r=>some (.pure (.at r))|none=>none)|none=>none)
 |.min,args=>(match Ad args with|some vs=>(match jf P (Builtin.min_ argTypes type vs.toArray)with|some r=>some (.pure (.at r))|none=>none)|none=>none)
 |.max,args=>(match Ad args with|some vs=>(match jf P (Builtin.max_ argTypes type vs.toArray)with|some r=>some (.pure (.at r))|none=>none)|none=>none)
 |_,_=>none
def tf(P:Program):List Field->Option (List (Nat×Nat))
 |[]=>some []
 |f::j=>match fW P f.type,tf P j with|some n,some l=>some ((f.offset,n)::l)|_,_=>none
def xH(P:Program)(f:FuncId):Bool:=match P.funcs[f]? with|some fn=>fn.body.isSome|none=>false
def xQ(ρ:Operand->AV)(c:Operand)(a:Operand)(b:Operand):Option ct:=
 (match ρ c with|.at (.bool t)=>some (.pure (Dy t (ρ a) (ρ b)))|_=>none)
def tl(P:Program)(nid:Nat)(t:TypeId):Option ct:=
 (match mh P t with
  |some z=>(match z.all gU with|true=>some (.eff (.hp nid 0) [(nid,.own z)])|false=>none)
  |none=>none)
def yV(ρ:Operand->AV)(nid:Nat)(x:Operand):Option ct:=
 (match (cellsOf (ρ x)).all gU with|true=>some (.eff (.hp nid 0) [(nid,.own (cellsOf (ρ x)))])|false=>none)
def vn(P:Program)(ρ:Operand->AV)(t:TypeId)(parts:Array (Nat×Operand)):Option ct:=
 (match mh P t,P.underlying t with
  |some z,some (.struct j)=>(match tf P j.toList with
   |some pl=>(match z.all gU with|true=>(match tH (fun i=>pl[i]?) z (parts.toList.map fun p=>(p.1,ρ p.2))with|some cs=>some (.pure (.agg cs))|none=>none)|false=>none)
   |none=>none)
  |some z,some (.array _ e)=>(match fW P e with
   |some n=>(match z.all gU with|true=>(match tH (fun i=>some (i*n,n)) z (parts.toList.map fun p=>(p.1,ρ p.2))with|some cs=>some (.pure (.agg cs))|none=>none)|false=>none)
   |none=>none)
  |_,_=>none)
def lF(P:Program)(ρ:Operand->AV)(nid:Nat)(t:TypeId)(len:Nat)(parts:Array (Nat×Operand)):Option ct:=
 (match P.underlying t with
  |some (.slice e)=>(match fW P e,mh P e with
   |some n,some z=>(match decide (len*n<=16777216)&&decide (z.length=n)&&z.all gU with
    |true=>(match tH (fun i=>some (i*n,n)) (eu z len) (parts.toList.map fun p=>(p.1,ρ p.2))with
     |some cs=>some (.eff (.hs nid 0 len n) [(nid,.own cs)])|none=>none)
    |false=>none)
   |_,_=>none)
  |_=>none)
def uM(P:Program)(ρ:Operand->AV)(H:List Blk)(t:TypeId)(a:Operand)(x:Operand):Option ct:=
 (match zx P H t (ρ a) (ρ x)with|some ws=>some (.eff .unk ws)|none=>none)
def pH(ρ:Operand->AV)(x:Operand):Option ct:=
 (match ρ x with|.hp b off=>some (.pure (.hp b off))|.pp cs off=>some (.pure (.pp cs off))|.fn f a c=>some (.pure (.fn f a c))|_=>none)
def qH(P:Program)(ρ:Operand->AV)(src:TypeId)(dst:TypeId)(x:Operand):Option ct:=
 (match DI P src dst (ρ x)with|some v=>some (.pure (.at v))|none=>Eu (fun v=>jf P (convert src dst v)) (ρ x))
def ml(P:Program)(ρ:Operand->AV)(nid:Nat)(t:TypeId)(l:Operand)(c:Operand):Option ct:=
 (match P.underlying t,AL (ρ l),AL (ρ c)with
  |some (.slice e),some (_,l),some (_,c)=>(match fW P e,pF P e,mh P e with
   |some n,some by_,some z=>(match decide (0<=l)&&decide (l<=c)&&decide ((by_:Int)*c<=281474976710656)&&decide (c<=9223372036854775807)&&decide (z.length=n)&&decide (0<n)&&z.all gU with
    |true=>some (.eff (.hs nid 0 l.toNat n) [(nid,.own (eu z c.toNat))])
    |false=>none)
   |_,_,_=>none)
  |_,_,_=>none)
def uP(P:Program)(ρ:Operand->AV)(H:List Blk)(t:TypeId)(x:Operand)(lo:Option Operand)(hi:Option Operand):Option ct:=
 (match ρ x with
  |.at (.string s)=>(match (match lo with|none=>some none|some a=>(toV (ρ a)).map some),(match hi with|none=>some none|some a=>(toV (ρ a)).map some)with
   |some l,some h=>(match jf P (Instr.sliceAt t (.string s) l h none)with|some r=>some (.pure (.at r))|none=>none)
   |_,_=>none)
  |y=>ct.ofP (vM P H t y (lo.map ρ) (hi.map ρ)))
def wx(P:Program)(ρ:Operand->AV)(H:List Blk)(nid:Nat)(c:Call)(j:TypeId):Option ct:=
 (match c.callee with
  |.value f=>(match ρ f with
   |.fn g q cs=>(match xH P g with|true=>some (.call g (q++c.args.toList.map ρ++cs))|false=>none)
   |_=>none)
  |.builtin b=>om P H nid b c.argTypes j (c.args.toList.map ρ)
  |_=>none)
def rr:List Value->List Value->Option Bool
 |[],[]=>some true
 |.int k x::l,.int k' y::j=>(match IntKind.tJ k k',rr l j with|true,some r=>some (x==y&&r)|_,_=>none)
 |_,_=>none
def kEq:Value->Value->Option Bool
 |.agg a,.agg b=>rr a.toList b.toList
 |.int k x,.int k' y=>(match IntKind.tJ k k' with|true=>some (x==y)|false=>none)
 |.bool x,.bool y=>some (x==y)
 |_,_=>none
def qu(P:Program)(e:TypeId):Bool:=match P.underlying e,fW P e with|some (.int _),some n=>Nat.beq n 1|_,_=>false
def vZ(P:Program):List Field->Nat->Bool
 |[],_=>true
 |f::j,i=>!decide (f.name= "_")&&Nat.beq f.offset i&&qu P f.type&&vZ P j (i+1)
def uE:List Value->Bool|[]=>true|.int ..::l=>uE l|_=>false
def oL(P:Program)(t:TypeId)(a:Array Value):Bool:=match P.underlying t with
 |some (.array n e)=>qu P e&&Nat.beq a.size n&&uE a.toList
 |some (.struct j)=>vZ P j.toList 0&&Nat.beq a.size j.toList.length&&uE a.toList&&!P.stoodInHeld t
 |_=>false
def ko(P:Program)(t:TypeId)(v:Value):Bool:=match P.underlying t,v with|some (.int k),.int k' _=>IntKind.tJ k k'|some .bool,.bool _=>true|some _,.agg a=>oL P t a|_,_=>false
def mG(k:Value):List (Value×AV)->Nat->Option (Option (Nat×AV))
 |[],_=>some none
 |(k',A)::es,i=>(match kEq k k' with|some true=>some (some (i,A))|some false=>mG k es (i+1)|none=>none)
def yN(P:Program)(e:TypeId):Option AV:=match P.info? e with|some i=>(match i.zero with|some (.agg a)=>some (.agg (a.toList.map .at))|some v=>some (.at v)|none=>none)|none=>none
def lL(H:List Blk)(x:AV):Option (Nat×List (Value×AV)):=match x with|.mp b=>(match H[b]? with|some (.map es)=>some (b,es)|_=>none)|_=>none
def gF(P:Program)(H:List Blk)(t:TypeId)(x ix:AV)(ok:Bool):Option AV:=
 match P.underlying t,lL H x,toV ix with
 |some (.map kt e),some (_,es),some k=>(match ko P kt k,yN P e,mG k es 0 with
  |true,some _,some (some (_,A))=>some (match ok with|true=>.tup [A,.at (.bool true)]|false=>A)
  |true,some z,some none=>some (match ok with|true=>.tup [z,.at (.bool false)]|false=>z)
  |_,_,_=>none)
 |_,_,_=>none
def jz(P:Program)(H:List Blk)(t:TypeId)(m k v:AV):Option ct:=
 match P.underlying t,lL H m,toV k with
 |some (.map kt _),some (b,es),some k=>(match ko P kt k,mG k es 0 with
  |true,some (some (i,_))=>some (.eff .unk [(b,.map (es.set i (k,v)))])
  |true,some none=>some (.eff .unk [(b,.map (es++[(k,v)]))])
  |_,_=>none)
 |_,_,_=>none
def nN(P:Program)(H:List Blk)(t:TypeId)(m k:AV):Option ct:=
 match P.underlying t,lL H m,toV k with
 |some (.map kt e),some (b,es),some k=>(match ko P kt k,yN P e,mG k es 0 with
  |true,some _,some (some (i,A))=>some (.eff (.tup [A,.at (.int .i64 i)]) [(b,.map (es.set i (k,A)))])
  |true,some z,some none=>some (.eff (.tup [z,.at (.int .i64 es.length)]) [(b,.map (es++[(k,z)]))])
  |_,_,_=>none)
 |_,_,_=>none
def mK(H:List Blk)(m s v:AV):Option ct:=
 match lL H m,Ba s with
 |some (b,es),some i=>(match decide (0<=i),es[i.toNat]? with|true,some (k,_)=>some (.eff .unk [(b,.map (es.set i.toNat (k,v)))])|_,_=>none)
 |_,_=>none
def qw(P:Program)(nid:Nat)(t:TypeId)(r:Option AV):Option ct:=
 match r with
 |none=>some (.eff (.mp nid) [(nid,.map [])])
 |some r=>(match AL r,P.underlying t with|some _,some (.map _ _)=>some (.eff (.mp nid) [(nid,.map [])])|_,_=>none)
def uy(H:List Blk)(x:AV):Option (Nat×Nat×List Nat):=match x with|.hp j 0=>(match H[j]? with|some (.iter m n seen)=>some (m,n,seen)|_=>none)|_=>none
def G0:Value->AV|.agg a=>.agg (a.toList.map .at)|v=>.at v
def tp(P:Program)(H:List Blk)(nid:Nat)(t:TypeId)(x:AV):Option ct:=
 match P.underlying t,lL H x with
 |some (.map _ _),some (b,es)=>some (.eff (.hp nid 0) [(nid,.iter b es.length [])])
 |_,_=>none
def nZ(H:List Blk)(x:AV):Option ct:=
 match uy H x with
 |some (m,n,seen)=>(match H[m]? with
  |some (.map es)=>(match decide (es.length=n),seen.getLast? with
   |true,some i=>(match es[i]? with|some (k,A)=>some (.pure (.tup [G0 k,A]))|none=>none)
   |_,_=>none)
  |_=>none)
 |none=>none
def nV(P:Program)(ρ:Operand->AV)(H:List Blk)(nid:Nat)(op:Op):Option ct:=
 match op with
 |.makeMap t r=>qw P nid t (r.map ρ)
 |.lookup t x ix ok=>ct.ofP (gF P H t (ρ x) (ρ ix) ok)
 |.mapUpdate t m k x=>jz P H t (ρ m) (ρ k) (ρ x)
 |.insert t m k x=>jz P H t (ρ m) (ρ k) (ρ x)
 |.mapEntry t m k=>nN P H t (ρ m) (ρ k)
 |.entryStore _ m s x=>mK H (ρ m) (ρ s) (ρ x)
 |.range t x=>tp P H nid t (ρ x)
 |.entry it=>nZ H (ρ it)
 |_=>none
def evalOp(P:Program)(ρ:Operand->AV)(H:List Blk)(nid:Nat)(o:Oper):Option ct:=
 match o.op with
 |.move x=>some (.pure (ρ x))
 |.assign x=>some (.pure (ρ x))
 |.pick c a b=>xQ ρ c a b
 |.alloc t=>tl P nid t
 |.box _ x=>yV ρ nid x
 |.build t parts=>vn P ρ t parts
 |.buildSlice t len parts=>lF P ρ nid t len parts
 |.load t a=>ct.ofP (yG P H t (ρ a))
 |.store t a x=>uM P ρ H t a x
 |.nilCheck x=>pH ρ x
 |.binOp op t x y _=>ct.ofP (rI P op t x y (ρ x) (ρ y))
 |.unOp op _ x=>Eu (fun v=>jf P (Op.unary op v)) (ρ x)
 |.convert src dst x=>qH P ρ src dst x
 |.makeFunc (.func f) j cs=>some (.pure (.fn f (j.toList.map ρ) (cs.toList.map ρ)))
 |.makeSlice t l c=>ml P ρ nid t l c
 |.slice t x lo hi none=>uP P ρ H t x lo hi
 |.fieldAddr s x f=>ct.ofP (tW P s (ρ x) f)
 |.field s x f=>ct.ofP (BF P s (ρ x) f)
 |.indexAddr t x ix=>ct.ofP (uv P t (ρ x) (ρ ix))
 |.index t x ix=>ct.ofP (xi P t (ρ x) (ρ ix))
 |.extract t ix=>(match ρ t with|.tup vs=>ct.ofP vs[ix]?|_=>none)
 |.call c=>wx P ρ H nid c o.type
 |op=>nV P ρ H nid op
def eL:AV->List Nat
 |.hp i _=>[i]
 |.hs i _ _ _=>[i]
 |.hc i _ _ _ _=>[i]
 |.mp i=>[i]
 |_=>[]
def rm(H:List Blk)(ρ:Operand->AV)(o:Oper):List Nat:=
 match o.op with
 |.load _ a=>eL (ρ a)
 |.store _ a _=>eL (ρ a)
 |.slice _ x _ _ _=>eL (ρ x)
 |.lookup _ x _ _=>eL (ρ x)
 |.mapUpdate _ m _ _=>eL (ρ m)
 |.insert _ m _ _=>eL (ρ m)
 |.mapEntry _ m _=>eL (ρ m)
 |.entryStore _ m _ _=>eL (ρ m)
 |.range _ x=>eL (ρ x)
 |.entry it=>eL (ρ it)++(match uy H (ρ it)with|some (m,_,_)=>[m]|none=>[])
 |.call c=>c.args.toList.flatMap fun x=>eL (ρ x)
 |_=>[]
end Go.Eng


namespace Go.Eng
open Go Go.RowKit
variable[Dr]
theorem cE{P:Program}{t:TypeId}{n:Nat}(h:fW P t=some n)(w:World):(sizeOf t).run P w=.ok n w:=by
 unfold fW at h;split at h
 ·rename_i i hi;cases h;simp[sizeOf,typeInfo,hi]
 ·cases h
theorem xg{P:Program}{t:TypeId}{b:Bool}(h:Bj P t=some b)(w:World):(isAgg t).run P w=.ok b w:=by
 unfold Bj at h;cases j:P.underlying t with
 |none=>simp[j]at h
 |some d=>cases d<;>simp[j]at h<;>subst h<;>simp[isAgg,run_underlying j]
theorem qB{P:Program}{t:TypeId}{z:List AV}(h:mh P t=some z)(w:World):∃j i,P.info? t=some i/\i.zero=some j/\(zeroValue t).run P w=.ok j w/\z=j.cells.toList.map .at:=by
 unfold mh at h;split at h
 ·rename_i i hi;split at h
  ·rename_i j q;cases h;exact⟨j,i,hi,q,by simp[zeroValue,typeInfo,hi,q],rfl⟩
  ·cases h
 ·cases h
theorem fV(b o n:Nat):(⟨b,o,none⟩:Addr).add n=⟨b,o+n,none⟩:=by unfold Addr.add;split<;>simp_all
section
variable{P:Program}{out:Nat->Prop}{B:Nat->Prop}{w:World}{π:List (Option PB)}{H:List Blk}
theorem ku(j:Inv out B w π H){i:Nat}{p:PB}{cs:List AV}(hH:H[i]?=some (.own cs)\/H[i]?=some (.fix cs))(hp:π[i]?=some (some p)):RvC w (aY out π H) π cs p.blk p.off:=by
 rcases hH with h|h
 ·exact(j.ok i _ p h hp).2
 ·exact j.ok i _ p h hp
theorem rR(j:Inv out B w π H){a:AV}{v:Value}{cs:List AV}(q:Rv w (aY out π H) π a v)(h:oW H a=some cs):
  ∃b o,v=.pointer (some ⟨b,o,none⟩)/\RvC w (aY out π H) π cs b o:=by
 unfold oW at h;split at h
 ·rename_i i off;obtain⟨p,hp,rfl⟩:=q;split at h
  ·rename_i c hc;cases h;exact⟨_,_,rfl,RvC.drop off c _ _ (ku j (.inl hc) hp)⟩
  ·rename_i c hc;cases h;exact⟨_,_,rfl,RvC.drop off c _ _ (ku j (.inr hc) hp)⟩
  ·cases h
 ·rename_i c off;cases h;obtain⟨b,o,rfl,_,z⟩:=q;exact⟨_,_,rfl,RvC.drop off c _ _ z.lift⟩
 ·cases h
theorem vj(q:Inv out B w π H){a:AV}{v:Value}{A:AV}(z:Rv w (aY out π H) π a v)(h:cellAt H a=some A):
  ∃C u,v=.pointer (some C)/\w.cell? C=some u/\Rv w (aY out π H) π A u:=by
 unfold cellAt at h;split at h
 ·rename_i i off;obtain⟨p,hp,rfl⟩:=z;split at h
  ·rename_i c hc;obtain⟨u,h1,_,j⟩:=RvC.get c _ _ off A (ku q (.inl hc) hp) h;exact⟨_,u,rfl,h1,j⟩
  ·rename_i c hc;obtain⟨u,h1,_,j⟩:=RvC.get c _ _ off A (ku q (.inr hc) hp) h;exact⟨_,u,rfl,h1,j⟩
  ·rename_i rs hc;unfold GF at h;split at h
   ·rename_i I D;cases h;obtain⟨u,h1,_,j⟩:=RvW.av rs _ _ _ off _ (q.ok i _ p hc hp).2.1 D;exact⟨_,u,rfl,h1,j⟩
   ·cases h
  ·cases h
 ·rename_i c off;obtain⟨b,o,rfl,_,E⟩:=z;obtain⟨u,h1,_,j⟩:=RvC.get c _ _ off A E.lift h;exact⟨_,u,rfl,h1,j⟩
 ·cases h
theorem qM{mu:Nat->Prop}{cs:List AV}{b o n:Nat}(h:RvC w mu π cs b o)(E:n<=cs.length):
  ∃vs:List Value,vs.length=n/\RvL w mu π (cs.take n) vs/\(∀v∈vs,v.oneCell'=true)/\(∀j v,vs[j]?=some v->w.cell? ((⟨b,o,none⟩:Addr).add j)=some v):=by
 obtain⟨vs,h1,q,z,C⟩:=RvC.list (cs.take n) b o (RvC.take n cs b o h);refine⟨vs,by simp[h1];omega,q,z,fun j v D=>?_⟩;rw[fV];exact C j v D
theorem wE(C:Inv out B w π H){t:TypeId}{a:AV}{v:Value}{A:AV}(D:Rv w (aY out π H) π a v)(h:yG P H t a=some A):
  ∃u,(Instr.loadAt t v).run P w=.ok u w/\Rv w (aY out π H) π A u:=by
 unfold yG at h;split at h
 ·rename_i j;split at h
  ·rename_i n cs I q;split at h
   ·rename_i hle;cases h;obtain⟨b,o,rfl,hc⟩:=rR C D q;obtain⟨vs,h1,z,_,J⟩:=qM hc (by simpa using hle);refine⟨.agg vs.toArray,?_,⟨vs.toArray,rfl,z⟩⟩;have E:=run_loadCells_list (P:=P) w ⟨b,o,none⟩ vs J;rw[h1]at E;simp[Instr.loadAt,Instr.sureAddr,loadVar,xg j,cE I,E]
   ·cases h
  ·cases h
 ·rename_i j;obtain⟨N,u,rfl,h1,z⟩:=vj C D h;exact⟨u,by simp[Instr.loadAt,Instr.sureAddr,loadVar,xg j,h1],z⟩
 ·cases h
theorem pS{i:Nat}{p:PB}(hp:π[i]?=some (some p)):∀(xs:List AV) (vs:List Value) (k off:Nat) (cs:List AV) (w:World) (H:List Blk),Inv out B w π H->H[i]?=some (.own cs)->
  RvL w (aY out π H) π xs vs->(∀v∈vs,v.oneCell'=true)->off+k+xs.length<=cs.length->
  ∃w',(storeCells ⟨p.blk,p.off+off,none⟩ vs k).run P w=.ok () w'/\Ext B w w' (aY out π H) (aY out π (H.set i (.own (setCells cs (off+k) xs)))) π π/\Inv out B w' π (H.set i (.own (setCells cs (off+k) xs)))
 |[],vs,k,off,cs,w,H,O,hH,R,_,_=>by
  cases R;have he:H.set i (.own (setCells cs (off+k) []))=H:=by
   apply List.ext_getElem?;intro j;rw[List.getElem?_set];split
   ·rename_i S;subst S;rw[if_pos (aW hH)];exact hH.symm
   ·rfl
  rw[he];exact⟨w,rfl,Ext.refl _ _ _,O⟩
 |x::xs,vs,k,off,cs,w,H,O,hH,R,h1,hl=>by
  obtain⟨v,D,rfl,hx,T⟩:=R;have hlen:off+k<cs.length:=by simp at hl;omega
  obtain⟨⟨c,e,q,U⟩,Y⟩:=O.ok i _ p hH hp;have hb:=RvC.bound Y q (by intro e0;subst e0;simp at hlen);obtain⟨u,hu,_,_⟩:=RvC.get cs _ _ (off+k) cs[off+k] Y (List.getElem?_eq_getElem hlen);have E:w.frozen? ⟨p.blk,p.off+(off+k),none⟩=false:=by simp[World.frozen?,q]
  have Z:(store ((⟨p.blk,p.off+off,none⟩:Addr).add k) v).run P w=.ok () (w.setCell ⟨p.blk,p.off+(off+k),none⟩ v):=by
   rw[fV,show p.off+off+k=p.off+(off+k)by omega,run_store P w _ v _ (h1 v (by simp)),hu];simp[E]
  have z:=Inv.tX O hH hp rfl (.own (cs.set (off+k) x)) (w':=w.setCell ⟨p.blk,p.off+(off+k),none⟩ v) (by simp) (fun b hb=>Below.heap_setCell w _ v b hb) rfl rfl rfl (fun _=>Nat.le_refl _) (fun I=>by
   refine⟨?_,?_⟩
   ·refine⟨c.setIfInBounds (p.off+(off+k)) v,e,?_,by simpa using U⟩;simp[World.setCell,Array.getElem?_modify,q]
   ·obtain⟨us,g1,g2,g3,g4⟩:=RvC.list cs _ _ Y;refine jO (cs.set (off+k) x) (us.set (off+k) v) _ _ (RvL.set cs us _ x v (RvL.ext I cs us g2) (Rv.ext I x v hx)) ?_ ?_
    ·intro y J;rcases List.mem_or_eq_of_mem_set J with J|rfl
     ·exact g3 y J
     ·exact h1 _ (by simp)
    ·intro j y C;rw[List.getElem?_set]at C;split at C
     ·rename_i N;subst N;split at C
      ·cases C;exact World.cell?_setCell_same w _ _ hu
      ·cases C
     ·rename_i N;rw[World.cell?_setCell_other w _ _ _ (by intro e0;injection e0 with e1 e2;omega)];exact g4 j y C)
  obtain⟨I,a1⟩:=z;obtain⟨w',r1,r2,r3⟩:=pS hp xs D (k+1) off (cs.set (off+k) x) (w.setCell ⟨p.blk,p.off+(off+k),none⟩ v) (H.set i (.own (cs.set (off+k) x))) a1 (by
    rw[List.getElem?_set,if_pos rfl,if_pos (aW hH)]) (RvL.ext I xs D T) (fun y J=>h1 y (by simp[J])) (by simp at hl ⊢;omega)
  refine⟨w',by simp only[storeCells,Sem.run_bind,Z,Result.andThen_ok,r1],?_,?_⟩
  ·rw[List.set_set]at r2;exact I.trans (by simpa [setCells,Nat.add_assoc]using r2)
  ·rw[List.set_set]at r3;simpa [setCells,Nat.add_assoc]using r3
theorem Dl{i:Nat}{p:PB}(U:Inv out B w π H){rs:List RC}(hH:H[i]?=some (.rows rs))(hp:π[i]?=some (some p)){y:AV}{v:Value}{off:Nat}(D:off<rs.length)(hv:Rv w (aY out π H) π y v)(h1:v.oneCell'=true):
  ∃w',(storeCells ⟨p.blk,p.off+off,none⟩ [v] 0).run P w=.ok () w'/\Ext B w w' (aY out π H) (aY out π (H.set i (.rows (rs.set off (.av y))))) π π/\Inv out B w' π (H.set i (.rows (rs.set off (.av y)))):=by
 obtain⟨⟨c,e,j,N⟩,O,E,R⟩:=U.ok i _ p hH hp;have Y:=RvW.bound O j D;obtain⟨u,hu,_⟩:=RvW.at O (List.getElem?_eq_getElem D);have I:w.frozen? ⟨p.blk,p.off+off,none⟩=false:=by simp[World.frozen?,j]
 have S:(store ((⟨p.blk,p.off+off,none⟩:Addr).add 0) v).run P w=.ok () (w.setCell ⟨p.blk,p.off+off,none⟩ v):=by
  rw[fV,Nat.add_zero,run_store P w _ v _ h1,hu];simp[I]
 have row:∀{k len es:Nat} {cs:List AV},(rs.set off (.av y))[k]?=some (.row len es cs)->k≠off/\rs[k]?=some (.row len es cs):=by
  intro k len es cs h;rcases dZ h with⟨_,e⟩|⟨hk,h⟩
  ·cases e
  ·exact⟨fun e=>hk e.symm,h⟩
 have C:=Inv.tX U hH hp rfl (.rows (rs.set off (.av y))) (w':=w.setCell ⟨p.blk,p.off+off,none⟩ v) (by simp) (fun b Y=>Below.heap_setCell w _ v b Y) rfl rfl rfl (fun _=>Nat.le_refl _) (fun Z=>by
  refine⟨⟨c.setIfInBounds (p.off+off) v,e,by simp[World.setCell,Array.getElem?_modify,j],by simpa using N⟩,RvW.of _ _ _ _ fun k x hk=>?_,fun k len es cs q g1 g2=>E k len es cs q (row g1).2 g2,
   fun k k' len es J es' cs cs' q q' T g1 g2 g3 g4=>R k k' len es J es' cs cs' q q' T (row g1).2 (row g2).2 g3 g4⟩
  rcases dZ hk with⟨rfl,rfl⟩|⟨a1,hk⟩
  ·exact⟨v,World.cell?_setCell_same w _ _ hu,h1,Rv.ext Z y v hv⟩
  ·obtain⟨z,z1,z2⟩:=RvW.at O hk;refine⟨z,by rw[World.cell?_setCell_other w _ _ _ (by intro e0;injection e0 with e1 e2;omega)];exact z1,z2.ext Z fun len es cs q e1 e2=>?_⟩;subst e1;exact Below.heap_setCell w _ v _ (E k len es cs q hk e2)) (by
  rintro b (h|⟨k,len,es,cs,q,g1,g2,g3⟩)
  ·exact .inl h
  ·exact .inr ⟨k,len,es,cs,q,(row g1).2,g2,g3⟩)
 exact⟨_,by simp only[storeCells,Sem.run_bind,S,Result.andThen_ok];rfl,C.1,C.2⟩
theorem zO(I:Inv out B w π H){t:TypeId}{a x:AV}{J z:Value}{ws:List (Nat×Blk)}(R:Rv w (aY out π H) π a J)(N:Rv w (aY out π H) π x z)(h:zx P H t a x=some ws):
  ∃w',(Instr.storeAt t J z).run P w=.ok () w'/\Ext B w w' (aY out π H) (aY out π (bj H ws)) π π/\Inv out B w' π (bj H ws):=by
 unfold zx at h;split at h
 ·rename_i i off;obtain⟨p,hp,rfl⟩:=R;split at h
  ·rename_i cs n hH C;split at h
   ·rename_i hc;cases h;simp only[Bool.and_eq_true,decide_eq_true_eq]at hc;obtain⟨h1,D⟩:=nP N hc.2;have S:=RvL.length _ _ h1;obtain⟨w',r1,r2,r3⟩:=pS (P:=P) hp (cellsOf x) z.cells.toList 0 off cs w H I hH h1 D (by omega);have hu:bj H [(i,.own (setCells cs off (cellsOf x)))]=H.set i (.own (setCells cs off (cellsOf x))):=by simp[bj,upd,aW hH]
    rw[Nat.add_zero]at r2 r3;refine⟨w',?_,by rw[hu];exact r2,by rw[hu];exact r3⟩;have j:z.cells.size=n:=by rw[<-Array.length_toList,S,hc.1.1]
    simp[Instr.storeAt,Instr.sureAddr,storeVar,cE C,j,r1]
   ·cases h
  ·rename_i rs n hH C;split at h
   ·rename_i y O;split at h
    ·rename_i hc;cases h;simp only[Bool.and_eq_true,decide_eq_true_eq]at hc;obtain⟨⟨rfl,E⟩,q⟩:=hc;obtain⟨h1,D⟩:=nP N (by rw[O];simp[q]);rw[O]at h1;obtain⟨v,l,e1,T,U⟩:=h1;cases U;obtain⟨w',r1,r2,r3⟩:=Dl (P:=P) I hH hp E T (D v (by rw[e1];simp));have hu:bj H [(i,.rows (rs.set off (.av y)))]=H.set i (.rows (rs.set off (.av y))):=by simp[bj,upd,aW hH]
     refine⟨w',?_,by rw[hu];exact r2,by rw[hu];exact r3⟩;have j:z.cells.size=1:=by rw[<-Array.length_toList,e1];rfl
     simp[Instr.storeAt,Instr.sureAddr,storeVar,cE C,j,e1,r1]
    ·cases h
   ·cases h
  ·cases h
 ·cases h
end
def Aa:List Value->Nat->List Value->List Value
 |l,_,[]=>l
 |l,off,x::xs=>Aa (l.set off x) (off+1) xs
theorem vy{mu:Nat->Prop}{π:List (Option PB)}{w:World}:∀(xs:List AV) (vs:List Value) (cs:List AV) (us:List Value) (off:Nat),RvL w mu π xs vs->RvL w mu π cs us->RvL w mu π (setCells cs off xs) (Aa us off vs)
 |[],vs,cs,us,off,h,k=>by cases h;exact k
 |x::xs,vs,cs,us,off,h,k=>by
  obtain⟨v,j,rfl,h1,q⟩:=h;exact vy xs j _ _ _ q (RvL.set cs us off x v k h1)
theorem wH:∀(vs us:List Value) (off:Nat),(Aa us off vs).length=us.length
 |[],_,_=>rfl
 |v::vs,us,off=>by simp[Aa,wH vs]
theorem AF{x:Value}:∀(vs us:List Value) (off:Nat),x∈Aa us off vs->x∈us\/x∈vs
 |[],_,_,h=>.inl h
 |v::vs,us,off,h=>by
  rcases AF vs _ _ h with h|h
  ·rcases List.mem_or_eq_of_mem_set h with h|rfl
   ·exact .inl h
   ·exact .inr (by simp)
  ·exact .inr (by simp[h])
theorem xD(off:Nat):∀(l:List Value) (k:Nat) (cells:Array Value),
  ((l.zipIdx k).foldl (fun(cs:Array Value) (p:Value×Nat)=>cs.setIfInBounds (off+p.2) p.1) cells).toList=Aa cells.toList (off+k) l
 |[],_,_=>rfl
 |v::l,k,cells=>by
  simp only[List.zipIdx_cons,List.foldl_cons,Aa];rw[xD off l (k+1)];simp[Nat.add_assoc]
theorem vG(off:Nat)(v:Value)(cells:Array Value):
  (v.cells.zipIdx.foldl (fun(cs:Array Value) (p:Value×Nat)=>cs.setIfInBounds (off+p.2) p.1) cells).toList=Aa cells.toList off v.cells.toList:=by
 rw[<-Array.foldl_toList,Array.toList_zipIdx];exact xD off v.cells.toList 0 cells
theorem pX{mu:Nat->Prop}{π:List (Option PB)}{w:World}{place:Nat->Option (Nat×Nat)}:∀(I:List (Nat×AV)) (z:List (Nat×Value)) (cs:List AV) (C:Array Value) (r:List AV),
  I.map (·.1)=z.map (·.1)->RvL w mu π (I.map (·.2)) (z.map (·.2))->RvL w mu π cs C.toList->(∀v∈C.toList,v.oneCell'=true)->tH place cs I=some r->
  ∃E,Instr.fill place C z=some E/\RvL w mu π r E.toList/\E.size=C.size/\(∀v∈E.toList,v.oneCell'=true)
 |[],z,cs,C,r,h1,_,N,O,D=>by
  cases z with
  |nil=>simp[tH]at D;subst D;exact⟨C,rfl,N,rfl,O⟩
  |cons q z=>simp at h1
 |(i,x)::I,z,cs,C,r,h1,U,N,O,D=>by
  cases z with
  |nil=>simp at h1
  |cons q z=>
   obtain⟨j,v⟩:=q;simp only[List.map_cons,List.cons.injEq]at h1;obtain⟨rfl,h1⟩:=h1;obtain⟨v',Y,e,Z,R⟩:=U;simp only[List.map_cons,List.cons.injEq]at e;obtain⟨rfl,rfl⟩:=e;unfold tH at D;unfold Instr.fill;split at D
   ·cases D
   ·rename_i off size S;split at D
    ·rename_i hc;simp only[Bool.and_eq_true,decide_eq_true_eq]at hc;obtain⟨g1,g2⟩:=nP Z hc.2;have hl:=RvL.length _ _ g1;have T:=RvL.length _ _ N;simp only[Array.length_toList]at hl T;have e1:v.cells.size=size:=by omega
     have e2:¬C.size<off+v.cells.size:=by omega
     obtain⟨E,r1,r2,r3,r4⟩:=pX I z (setCells cs off (cellsOf x)) (v.cells.zipIdx.foldl (fun(cs:Array Value) (p:Value×Nat)=>cs.setIfInBounds (off+p.2) p.1) C) r h1 R (by
       rw[vG];exact vy _ _ _ _ _ g1 N) (by
       rw[vG];intro y J;rcases AF _ _ _ J with J|J
       ·exact O y J
       ·exact g2 y J) D
     refine⟨E,?_,r2,?_,r4⟩
     ·simp only[S];rw[if_neg (by simp[e1];omega)];exact r1
     ·rw[r3,<-Array.length_toList,vG,wH,Array.length_toList]
    ·cases D
theorem tI{P:Program}(w:World):∀(j:List Field) (pl:List (Nat×Nat)),tf P j=some pl->(j.mapM (m:=Sem) fun f=>do pure (f.offset,<-sizeOf f.type)).run P w=.ok pl w
 |[],pl,h=>by simp[tf]at h;subst h;simp
 |f::j,pl,h=>by
  unfold tf at h;split at h
  ·rename_i n l q z;cases h;have C:=tI w j l z;simp only[List.mapM_cons,Sem.run_bind,cE q,Result.andThen_ok,Sem.run_pure,C]
  ·cases h
theorem sW{mu:Nat->Prop}{π:List (Option PB)}{w:World}(z:List Value):∀n:Nat,RvL w mu π (eu (z.map .at) n) ((List.replicate n z).flatten)
 |0=>rfl
 |n+1=>by
  simp only[eu,List.replicate_succ,List.flatten_cons];exact RvL.append _ _ _ _ (gJ z) (sW z n)
theorem FO{mu:Nat->Prop}{π:List (Option PB)}{w:World}{a:AV}{v:Value}(h:Rv w mu π a v):Rv w mu π (wkN a) v:=by
 unfold wkN;split
 ·exact .inl ⟨rfl,rfl,rfl,h⟩
 ·exact h
theorem Cy{mu:Nat->Prop}{π:List (Option PB)}{w:World}:∀(as:List AV) (vs:List Value),RvL w mu π as vs->RvL w mu π (as.map wkN) vs
 |[],_,h=>h
 |a::as,_,⟨v,j,h1,q,z⟩=>⟨v,j,h1,FO q,Cy as j z⟩
theorem xB{mu:Nat->Prop}{π:List (Option PB)}{w:World}(z:List Value):∀n:Nat,RvL w mu π (eu ((z.map .at).map wkN) n) ((List.replicate n z).flatten)
 |0=>rfl
 |n+1=>by
  simp only[eu,List.replicate_succ,List.flatten_cons];exact RvL.append _ _ _ _ (Cy _ _ (gJ z)) (xB z n)
theorem mY(z:List Value)(C:0<z.length):∀(n j:Nat),j<n*z.length->((List.replicate n z).flatten)[j]?=z[j%z.length]?
 |0,j,h=>by simp at h
 |n+1,j,h=>by
  simp only[List.replicate_succ,List.flatten_cons];by_cases q:j<z.length
  ·rw[List.getElem?_append_left q,Nat.mod_eq_of_lt q]
  ·rw[List.getElem?_append_right (by omega),mY z C n (j-z.length) (by rw[Nat.add_mul,Nat.one_mul]at h;omega)];congr 1;rw[<-Nat.mod_eq_sub_mod (by omega)]
theorem mS(z:Array Value)(n:Nat)(q:0<z.size):(madeCells z (n*z.size)).toList=(List.replicate n z.toList).flatten:=by
 apply List.ext_getElem?;intro j;by_cases C:j<n*z.size
 ·rw[mY z.toList (by simpa using q) n j (by simpa using C)];simp[madeCells,C,Nat.mod_lt _ q,getElem!_pos]
 ·rw[List.getElem?_eq_none (by simp[madeCells];omega),List.getElem?_eq_none (by simp;omega)]
theorem all_zero{z:List Value}(h:(z.map AV.at).all gU=true):∀v∈z,v.oneCell'=true:=by
 simpa [gU,List.all_map]using h
theorem lY{z:List Value}(h:∀v∈z,v.oneCell'=true)(n:Nat):∀v∈(List.replicate n z).flatten,v.oneCell'=true:=by
 intro v j;simp only[List.mem_flatten,List.mem_replicate]at j;obtain⟨l,⟨_,rfl⟩,j⟩:=j;exact h v j
section
variable{P:Program}{out:Nat->Prop}{B:Nat->Prop}{w:World}{π:List (Option PB)}{H:List Blk}
theorem tb(C:Inv out B w π H){n:Nat}(D:n<=H.length)(E:∀q,π[n]?≠some (some q))(cs:List AV)(vs:Array Value)(e:TypeId)(h:RvL w (aY out π H) π cs (vs.toList.take cs.length))(h1:∀v∈vs.toList.take cs.length,v.oneCell'=true):
  Ext B w (w.alloc (.cells vs e)) (aY out π H) (aY out (upd π n (some ⟨w.heap.size,0,vs.size,fun _=>none⟩)) (bj H [(n,.own cs)])) π (upd π n (some ⟨w.heap.size,0,vs.size,fun _=>none⟩))/\
  Inv out B (w.alloc (.cells vs e)) (upd π n (some ⟨w.heap.size,0,vs.size,fun _=>none⟩)) (bj H [(n,.own cs)]):=by
 have I:=qQ C (.cells vs e) (.own cs) ⟨w.heap.size,0,vs.size,fun _=>none⟩ rfl D E;refine⟨I,C.alloc _ _ _ rfl D E ⟨⟨vs,e,(by show(w.heap.push _)[w.heap.size]?=_;simp),rfl⟩,?_⟩⟩;refine jO cs (vs.toList.take cs.length) _ _ (RvL.ext I _ _ h) h1 fun j v z=>?_
 rw[Nat.zero_add,World.cell?_alloc_new];rw[List.getElem?_take]at z;split at z
 ·simpa using z
 ·cases z
theorem od(z:Inv out B w π H){n:Nat}(C:n<=H.length)(D:∀q,π[n]?≠some (some q))(cs:List AV)(vs:Array Value)(e:TypeId)(h:RvL w (aY out π H) π cs vs.toList)(h1:∀v∈vs.toList,v.oneCell'=true):
  Ext B w (w.alloc (.cells vs e)) (aY out π H) (aY out (upd π n (some ⟨w.heap.size,0,vs.size,fun _=>none⟩)) (bj H [(n,.own cs)])) π (upd π n (some ⟨w.heap.size,0,vs.size,fun _=>none⟩))/\
  Inv out B (w.alloc (.cells vs e)) (upd π n (some ⟨w.heap.size,0,vs.size,fun _=>none⟩)) (bj H [(n,.own cs)]):=by
 have E:=RvL.length _ _ h;have j:vs.toList.take cs.length=vs.toList:=by rw[<-E,List.take_length]
 exact tb z C D cs vs e (by rw[j];exact h) (by rw[j];exact h1)
theorem ja(j:Inv out B w π H){n:Nat}(q:n<=H.length)(p:PB):(upd π n (some p))[n]?=some (some p):=by rw[hU (by have:=j.len;omega),if_pos rfl]
end
end Go.Eng
namespace Go
theorem lbT{n m:Nat}(h:Nat.ble n m=true):n<=m:=Nat.le_of_ble_eq_true h
theorem dcT{p:Prop}[Decidable p](h:decide p=true):p:=of_decide_eq_true h
theorem dcF{p:Prop}[Decidable p](h:decide p=false):¬p:=of_decide_eq_false h
theorem mrT{a b c:Int}(h:a<=b)(k:0<=c):a*c<=b*c:=Int.mul_le_mul_of_nonneg_right h k
theorem mlT{a b c:Int}(h:a<=b)(k:0<=c):c*a<=c*b:=Int.mul_le_mul_of_nonneg_left h k
theorem geT{α:Type _}{l:List α}{i:Nat}(h:i<l.length):l[i]?=some l[i]:=List.getElem?_eq_getElem h
end Go
