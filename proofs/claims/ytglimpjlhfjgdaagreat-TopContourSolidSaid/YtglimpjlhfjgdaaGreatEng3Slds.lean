import Derived.Calls
import Derived.Below
import Derived.LoopN
import Derived.Orders
import Derived.Laws.Append
import Derived.Laws.AppendOwn
import Derived.Laws.MakeOwn
import Derived.Laws.CopyRow
import Derived.Laws.Cells
import Derived.Laws.Build
import Derived.Laws.StructEq
import Derived.Laws.Rows
import Derived.Laws.Bits64
import Derived.Laws.BitsLemmas
set_option linter.all false
namespace Go.Eng
open Go
class Dr where d:Bool
variable[Dr]
inductive AV where
 |unk
 |at (v:Value)
 |sl (nl:Bool) (cs:List AV) (len:Nat)
 |pp (cs:List AV) (off:Nat)
 |hs (b off len es:Nat)
 |hc (b off len cap es:Nat)
 |hp (b off:Nat)
 |mp (b:Nat)
 |agg (cs:List AV)
 |tup (cs:List AV)
 |fn (f:FuncId) (fs cs:List AV)
 deriving Inhabited
structure PB where
 blk:Nat
 off:Nat
 size:Nat
 subs:Nat->Option (Nat×Nat×Nat):=fun _=>none
inductive RC where
 |row (len es:Nat) (cs:List AV)
 |av (A:AV)
 deriving Inhabited
inductive Blk where
 |dead
 |own (cs:List AV)
 |fix (cs:List AV)
 |map (es:List (Value×AV))
 |iter (m n:Nat) (seen:List Nat)
 |rows (rs:List RC)
 deriving Inhabited
def Blk.eN:Blk->Bool|.own _|.map _|.iter ..|.rows _=>true|_=>false
def Blk.isLive:Blk->Bool|.dead=>false|_=>true
def Blk.owns:Blk->PB->Nat->Prop
 |.dead,_,_=>False
 |.rows rs,p,b=>p.blk=b\/∃(k len es:Nat) (cs:List AV) (q:Nat×Nat×Nat),rs[k]?=some (.row len es cs)/\p.subs k=some q/\q.1=b
 |_,p,b=>p.blk=b
def Blk.plain:Blk->Bool|.rows _=>false|_=>true
theorem Blk.iE{x:Blk}{p:PB}(h:x.isLive=true):x.owns p p.blk:=by
 cases x with
 |dead=>cases h
 |rows rs=>exact .inl rfl
 |own cs=>exact rfl
 |fix cs=>exact rfl
 |map es=>exact rfl
 |iter m n s=>exact rfl
theorem Blk.px{x:Blk}{p:PB}{b:Nat}(h:x.plain=true)(j:x.owns p b):p.blk=b:=by
 cases x with
 |dead=>exact j.elim
 |rows rs=>cases h
 |own cs=>exact j
 |fix cs=>exact j
 |map es=>exact j
 |iter m n s=>exact j
theorem Blk.di{x:Blk}{p:PB}{b:Nat}(j:x.owns p b):x.isLive=true:=by
 cases x with
 |dead=>exact j.elim
 |rows rs=>rfl
 |own cs=>rfl
 |fix cs=>rfl
 |map es=>rfl
 |iter m n s=>rfl
mutual
def Rv(w:World)(mu:Nat->Prop)(π:List (Option PB)):AV->Value->Prop
 |.unk,_=>True
 |.at x,v=>v=x
 |.sl nl cs len,v=>(nl=true/\len=0/\cs=[]/\v=.slice none 0 0)\/
   (∃b o cap,v=.slice (some ⟨b,o,none⟩) len cap/\len<=cap/\(cs≠[]->¬mu b)/\RvC w mu [] cs b o)\/(len=0/\cs=[]/\∃a cap,v=.slice (some a) 0 cap)
 |.pp cs off,v=>∃b o,v=.pointer (some ⟨b,o+off,none⟩)/\(cs≠[]->¬mu b)/\RvC w mu [] cs b o
 |.hs i off len es,v=>(len=0/\v=.slice none 0 0)\/∃p a cap,π[i]?=some (some p)/\v=.slice (some a) len cap/\len<=cap/\a.spot=none/\
   (0<cap->a=⟨p.blk,p.off+off,none⟩/\p.off+off+cap*es<=p.size)
 |.hc i off len cap es,v=>∃p a,π[i]?=some (some p)/\v=.slice (some a) len cap/\len<=cap/\a.spot=none/\
   (0<cap->a=⟨p.blk,p.off+off,none⟩/\p.off+off+cap*es<=p.size)
 |.hp i off,v=>∃p,π[i]?=some (some p)/\v=.pointer (some ⟨p.blk,p.off+off,none⟩)
 |.mp i,v=>∃p,π[i]?=some (some p)/\v=.map (some p.blk)
 |.agg cs,v=>∃vs,v=.agg vs/\RvL w mu π cs vs.toList
 |.tup cs,v=>∃vs,v=.tuple vs/\RvL w mu π cs vs.toList
 |.fn f j cs,v=>∃a c,v=.func (.func f) a c/\RvL w mu π j a.toList/\RvL w mu π cs c.toList
def RvC(w:World)(mu:Nat->Prop)(π:List (Option PB)):List AV->Nat->Nat->Prop
 |[],_,_=>True
 |c::cs,b,o=>(∃v,w.cell? ⟨b,o,none⟩=some v/\v.oneCell'=true/\Rv w mu π c v)/\RvC w mu π cs b (o+1)
def RvL(w:World)(mu:Nat->Prop)(π:List (Option PB)):List AV->List Value->Prop
 |[],vs=>vs=[]
 |c::cs,vs=>∃v j,vs=v::j/\Rv w mu π c v/\RvL w mu π cs j
end
def Lo(n:Nat):Nat->Prop:=fun b=>b<n
structure Ext (B:Nat->Prop) (w w':World) (mu mu':Nat->Prop) (π π':List (Option PB)):Prop where
 low:∀b,B b->w'.heap[b]?=w.heap[b]?
 size:w.heap.size<=w'.heap.size
 keep:∀b,b<w.heap.size->¬mu b->w'.heap[b]?=w.heap[b]?/\¬mu' b
 pre:∀(i:Nat) (p:PB),π[i]?=some (some p)->π'[i]?=some (some p)
 os:w'.os=w.os
 tape:w'.tape=w.tape
 output:w'.output=w.output
 drawn:Dr.d=true->w.drawn<=w'.drawn
theorem Ext.refl{B:Nat->Prop}(w:World)(mu:Nat->Prop)(π:List (Option PB)):Ext B w w mu mu π π:=⟨fun _ _=>rfl,Nat.le_refl _,fun _ _ h=>⟨rfl,h⟩,fun _ _ h=>h,rfl,rfl,rfl,fun _=>Nat.le_refl _⟩
theorem Ext.trans{B:Nat->Prop}{w w' m:World}{mu mu' j:Nat->Prop}{π π' π'':List (Option PB)}(h:Ext B w w' mu mu' π π')(k:Ext B w' m mu' j π' π''):Ext B w m mu j π π'':=
 ⟨fun b q=>(k.low b q).trans (h.low b q),Nat.le_trans h.size k.size,fun b q hm=>by
  have h1:=h.keep b q hm;have h2:=k.keep b (Nat.lt_of_lt_of_le q h.size) h1.2;exact⟨h2.1.trans h1.1,h2.2⟩,fun i p hp=>k.pre i p (h.pre i p hp),k.os.trans h.os,k.tape.trans h.tape,k.output.trans h.output,fun e=>Nat.le_trans (h.drawn e) (k.drawn e)⟩
theorem Ext.pure{B:Nat->Prop}{w w':World}{mu mu':Nat->Prop}{π π':List (Option PB)}(h:Ext B w w' mu mu' π π'):Ext B w w' mu mu' [] []:=
 ⟨h.low,h.size,h.keep,fun i p hp=>by simp at hp,h.os,h.tape,h.output,h.drawn⟩
theorem oV{w w':World}{b o:Nat}(h:w'.heap[b]?=w.heap[b]?):w'.cell? ⟨b,o,none⟩=w.cell? ⟨b,o,none⟩:=World.cell?_of_block (w:=w) h
mutual
theorem Rv.ext{B:Nat->Prop}{w w':World}{mu mu':Nat->Prop}{π π':List (Option PB)}(h:Ext B w w' mu mu' π π'):(A:AV)->(v:Value)->Rv w mu π A v->Rv w' mu' π' A v
 |.unk,_,_=>trivial
 |.at x,v,j=>j
 |.sl nl [] len,v,j=>by
  rcases j with j|⟨b,o,cap,h1,h2,m,z⟩|j
  ·exact .inl j
  ·exact .inr (.inl ⟨b,o,cap,h1,h2,fun hc=>(hc rfl).elim,trivial⟩)
  ·exact .inr (.inr j)
 |.sl nl (c::cs) len,v,j=>by
  rcases j with j|⟨b,o,cap,h1,h2,m,z⟩|⟨_,j,_⟩
  rotate_left 2
  ·cases j
  ·exact .inl j
  ·have q:b<w.heap.size:=by obtain⟨⟨u,hu,_⟩,_⟩:=z;exact World.block_lt_of_cell? _ ⟨b,o,none⟩ hu
   have hk:=h.keep b q (m (by simp));exact .inr (.inl ⟨b,o,cap,h1,h2,fun _=>hk.2,RvC.ext h.pure (c::cs) b o hk.1 z⟩)
 |.pp [] off,v,j=>by
  obtain⟨b,o,h1,h2,m⟩:=j;exact⟨b,o,h1,fun hc=>(hc rfl).elim,trivial⟩
 |.pp (c::cs) off,v,j=>by
  obtain⟨b,o,h1,h2,m⟩:=j;have q:b<w.heap.size:=by obtain⟨⟨u,hu,_⟩,_⟩:=m;exact World.block_lt_of_cell? _ ⟨b,o,none⟩ hu
  have hk:=h.keep b q (h2 (by simp));exact⟨b,o,h1,fun _=>hk.2,RvC.ext h.pure (c::cs) b o hk.1 m⟩
 |.hs i off len es,v,j=>by
  rcases j with j|⟨p,a,cap,h1,h2⟩
  ·exact .inl j
  ·exact .inr ⟨p,a,cap,h.pre _ _ h1,h2⟩
 |.hc i off len cap es,v,j=>by
  obtain⟨p,a,h1,h2⟩:=j;exact⟨p,a,h.pre _ _ h1,h2⟩
 |.hp i off,v,j=>by
  obtain⟨p,h1,h2⟩:=j;exact⟨p,h.pre _ _ h1,h2⟩
 |.mp i,v,j=>by
  obtain⟨p,h1,h2⟩:=j;exact⟨p,h.pre _ _ h1,h2⟩
 |.agg cs,v,j=>by
  obtain⟨vs,h1,h2⟩:=j;exact⟨vs,h1,RvL.ext h cs _ h2⟩
 |.tup cs,v,j=>by
  obtain⟨vs,h1,h2⟩:=j;exact⟨vs,h1,RvL.ext h cs _ h2⟩
 |.fn f C cs,v,j=>by
  obtain⟨a,c,h1,h2,m⟩:=j;exact⟨a,c,h1,RvL.ext h C _ h2,RvL.ext h cs _ m⟩
theorem RvC.ext{B:Nat->Prop}{w w':World}{mu mu':Nat->Prop}{π π':List (Option PB)}(h:Ext B w w' mu mu' π π'):(cs:List AV)->(b o:Nat)->w'.heap[b]?=w.heap[b]?->RvC w mu π cs b o->RvC w' mu' π' cs b o
 |[],_,_,_,_=>trivial
 |c::cs,b,o,j,hc=>by
  obtain⟨⟨v,h1,h2,m⟩,p⟩:=hc;exact⟨⟨v,by rw[oV j];exact h1,h2,Rv.ext h c v m⟩,RvC.ext h cs b (o+1) j p⟩
theorem RvL.ext{B:Nat->Prop}{w w':World}{mu mu':Nat->Prop}{π π':List (Option PB)}(h:Ext B w w' mu mu' π π'):(cs:List AV)->(vs:List Value)->RvL w mu π cs vs->RvL w' mu' π' cs vs
 |[],_,m=>m
 |c::cs,vs,m=>by
  obtain⟨v,j,h1,h2,p⟩:=m;exact⟨v,j,h1,Rv.ext h c v h2,RvL.ext h cs j p⟩
end
def aI(out:Nat->Prop)(π:List (Option PB))(H:List Blk)(b:Nat):Prop:=
 out b\/∃(i:Nat) (x:Blk) (p:PB),H[i]?=some x/\x.eN=true/\π[i]?=some (some p)/\x.owns p b
def sz(w:World)(mu:Nat->Prop)(s:Option (Nat×Nat×Nat))(len es:Nat)(cs:List AV)(v:Value):Prop:=
 (len=0/\cs=[]/\v=.slice none 0 0)\/∃(q:Nat×Nat×Nat) (a:Addr) (cap:Nat) (c:Array Value) (e:TypeId),s=some q/\v=.slice (some a) len cap/\len<=cap/\a.spot=none/\
  (0<cap->a=⟨q.1,q.2.1,none⟩/\q.2.1+cap*es<=q.2.2)/\w.heap[q.1]?=some (.cells c e (0,0))/\c.size=q.2.2/\(len=0->cs=[])/\RvC w mu [] cs q.1 q.2.1
def RvW(w:World)(mu:Nat->Prop)(π:List (Option PB)):List RC->(Nat->Option (Nat×Nat×Nat))->Nat->Nat->Prop
 |[],_,_,_=>True
 |.row len es cs::rs,j,b,o=>(∃v,w.cell? ⟨b,o,none⟩=some v/\sz w mu (j 0) len es cs v)/\RvW w mu π rs (fun i=>j (i+1)) b (o+1)
 |.av A::rs,j,b,o=>(∃v,w.cell? ⟨b,o,none⟩=some v/\v.oneCell'=true/\Rv w mu π A v)/\RvW w mu π rs (fun i=>j (i+1)) b (o+1)
def vO(rs:List RC)(p:PB):Prop:=
 (∀(k len es:Nat) (cs:List AV) (q:Nat×Nat×Nat),rs[k]?=some (.row len es cs)->p.subs k=some q->q.1≠p.blk)/\
 ∀(k k' len es j es':Nat) (cs cs':List AV) (q m:Nat×Nat×Nat),k≠k'->rs[k]?=some (.row len es cs)->rs[k']?=some (.row j es' cs')->p.subs k=some q->p.subs k'=some m->q.1≠m.1
theorem sz.ext{B:Nat->Prop}{w w':World}{mu mu':Nat->Prop}{π π':List (Option PB)}(h:Ext B w w' mu mu' π π'){s:Option (Nat×Nat×Nat)}{len es:Nat}{cs:List AV}{v:Value}(hs:∀q,s=some q->w'.heap[q.1]?=w.heap[q.1]?)(j:sz w mu s len es cs v):sz w' mu' s len es cs v:=by
 rcases j with j|⟨q,a,cap,c,e,h1,h2,m,p,z,C,D,E,I⟩
 ·exact .inl j
 ·exact .inr ⟨q,a,cap,c,e,h1,h2,m,p,z,by rw[hs q h1];exact C,D,E,RvC.ext h.pure cs _ _ (hs q h1) I⟩
theorem RvW.ext{B:Nat->Prop}{w w':World}{mu mu':Nat->Prop}{π π':List (Option PB)}(h:Ext B w w' mu mu' π π'):(rs:List RC)->(j:Nat->Option (Nat×Nat×Nat))->(b o:Nat)->w'.heap[b]?=w.heap[b]?->
  (∀(k len es:Nat) (cs:List AV) (q:Nat×Nat×Nat),rs[k]?=some (.row len es cs)->j k=some q->w'.heap[q.1]?=w.heap[q.1]?)->RvW w mu π rs j b o->RvW w' mu' π' rs j b o
 |[],_,_,_,_,_,_=>trivial
 |.row len es cs::rs,j,b,o,m,p,hc=>by
  obtain⟨⟨v,h1,h2⟩,z⟩:=hc;exact⟨⟨v,by rw[oV m];exact h1,sz.ext h (fun q e=>p 0 len es cs q rfl e) h2⟩,RvW.ext h rs _ b (o+1) m (fun k C D E q e1 e2=>p (k+1) C D E q (by simpa using e1) e2) z⟩
 |.av A::rs,j,b,o,m,p,hc=>by
  obtain⟨⟨v,h1,h2,z⟩,I⟩:=hc;exact⟨⟨v,by rw[oV m];exact h1,h2,Rv.ext h A v z⟩,RvW.ext h rs _ b (o+1) m (fun k C D E q e1 e2=>p (k+1) C D E q (by simpa using e1) e2) I⟩
def RvM(w:World)(mu:Nat->Prop)(π:List (Option PB)):Nat->List (Value×AV)->List MapEntry->Prop
 |_,[],l=>l=[]
 |i,(k,A)::es,l=>∃e j,l=e::j/\e.key=k/\e.born=i/\Rv w mu π A e.val/\RvM w mu π (i+1) es j
theorem RvM.ext{B:Nat->Prop}{w w':World}{mu mu':Nat->Prop}{π π':List (Option PB)}(h:Ext B w w' mu mu' π π'):(i:Nat)->(es:List (Value×AV))->(l:List MapEntry)->RvM w mu π i es l->RvM w' mu' π' i es l
 |_,[],_,j=>j
 |i,(k,A)::es,l,j=>by
  obtain⟨e,m,h1,h2,p,q,z⟩:=j;exact⟨e,m,h1,h2,p,Rv.ext h A _ q,RvM.ext h (i+1) es m z⟩
def dy(w:World)(mu:Nat->Prop)(π:List (Option PB))(p:PB):Blk->Prop
 |.dead=>True
 |.own cs=>(∃c e,w.heap[p.blk]?=some (.cells c e (0,0))/\c.size=p.size)/\RvC w mu π cs p.blk p.off
 |.fix cs=>RvC w mu π cs p.blk p.off
 |.map es=>∃a,w.heap[p.blk]?=some (.map a a.size)/\RvM w mu π 0 es a.toList
 |.iter m n seen=>p.off=0/\∃q,π[m]?=some (some q)/\w.heap[p.blk]?=some (.mapIter (some q.blk) n seen.toArray n)
 |.rows rs=>(∃c e,w.heap[p.blk]?=some (.cells c e (0,0))/\c.size=p.size)/\RvW w mu π rs p.subs p.blk p.off/\vO rs p
theorem dy.ext{B:Nat->Prop}{w w':World}{mu mu':Nat->Prop}{π π':List (Option PB)}(h:Ext B w w' mu mu' π π'){p:PB}{x:Blk}(z:∀b,x.owns p b->w'.heap[b]?=w.heap[b]?)
  (C:dy w mu π p x):dy w' mu' π' p x:=by
 have j:x.isLive=true->w'.heap[p.blk]?=w.heap[p.blk]?:=fun E=>z _ (Blk.iE E)
 cases x with
 |dead=>trivial
 |own cs=>obtain⟨⟨c,e,h1,h2⟩,D⟩:=C;exact⟨⟨c,e,by rw[j rfl];exact h1,h2⟩,RvC.ext h cs _ _ (j rfl) D⟩
 |fix cs=>exact RvC.ext h cs _ _ (j rfl) C
 |map es=>obtain⟨a,h1,h2⟩:=C;exact⟨a,by rw[j rfl];exact h1,RvM.ext h 0 es _ h2⟩
 |iter m n seen=>obtain⟨I,q,h1,h2⟩:=C;exact⟨I,q,h.pre _ _ h1,by rw[j rfl];exact h2⟩
 |rows rs=>obtain⟨⟨c,e,h1,h2⟩,D,J⟩:=C;exact⟨⟨c,e,by rw[j rfl];exact h1,h2⟩,RvW.ext h rs _ _ _ (j rfl) (fun k len es cs q g1 g2=>z _ (.inr ⟨k,len,es,cs,q,g1,g2,rfl⟩)) D,J⟩
structure Inv (out:Nat->Prop) (B:Nat->Prop) (w:World) (π:List (Option PB)) (H:List Blk):Prop where
 len:π.length=H.length
 bound:∀b,B b->b<w.heap.size
 out_lt:∀b,out b->B b
 baseO:∀(i:Nat) (x:Blk) (p:PB) (b:Nat),H[i]?=some x->π[i]?=some (some p)->x.owns p b->¬B b/\b<w.heap.size
 ok:∀(i:Nat) (x:Blk) (p:PB),H[i]?=some x->π[i]?=some (some p)->dy w (aI out π H) π p x
 sepO:∀(i j:Nat) (x y:Blk) (p q:PB) (b:Nat),i≠j->H[i]?=some x->H[j]?=some y->π[i]?=some (some p)->π[j]?=some (some q)->x.eN=true->x.owns p b->¬y.owns q b
theorem Inv.base{out:Nat->Prop}{B:Nat->Prop}{w:World}{π:List (Option PB)}{H:List Blk}(j:Inv out B w π H)(i:Nat)(x:Blk)(p:PB)(h1:H[i]?=some x)(h2:π[i]?=some (some p))(m:x.isLive=true):¬B p.blk/\p.blk<w.heap.size:=
 j.baseO i x p p.blk h1 h2 (Blk.iE m)
theorem Blk.bJ{x:Blk}(h:x.eN=true):x.isLive=true:=by cases x<;>simp_all [Blk.eN,Blk.isLive]
theorem aK{α:Type}{l:List α}{i:Nat}{x:α}(h:l[i]?=some x):i<l.length:=(List.getElem?_eq_some_iff.1 h).1
def upd{α:Type}(l:List α)(i:Nat)(x:α):List α:=if i<l.length then l.set i x else l++[x]
theorem eI{α:Type}{l:List α}{i j:Nat}{x:α}(hi:i<=l.length):(upd l i x)[j]?=if j=i then some x else l[j]?:=by
 unfold upd;split
 ·rw[List.getElem?_set];by_cases m:j=i
  ·subst m;simp[*]
  ·rw[if_neg (fun e=>m e.symm),if_neg m]
 ·obtain rfl:i=l.length:=by omega
  by_cases m:j=l.length
  ·subst m;simp
  ·rw[if_neg m];by_cases p:j<l.length
   ·rw[List.getElem?_append_left p]
   ·rw[List.getElem?_eq_none (by simp;omega),List.getElem?_eq_none (by omega)]
theorem fG{α:Type}{l:List α}{i j:Nat}{x y:α}(hi:i<=l.length)(h:(upd l i x)[j]?=some y):(j=i/\y=x)\/(j≠i/\l[j]?=some y):=by
 rw[eI hi]at h;split at h
 ·rename_i e;cases h;exact .inl ⟨e,rfl⟩
 ·rename_i e;exact .inr ⟨e,h⟩
theorem cz{α:Type}{l:List α}{i:Nat}{x:α}(hi:i<=l.length):(upd l i x).length=if i=l.length then l.length+1 else l.length:=by
 unfold upd;split
 ·rw[List.length_set,if_neg (by omega)]
 ·rw[if_pos (by omega)];simp
theorem Inv.sep{out:Nat->Prop}{B:Nat->Prop}{w:World}{π:List (Option PB)}{H:List Blk}(C:Inv out B w π H)(i j:Nat)(x y:Blk)(p q:PB)(m:i≠j)(h1:H[i]?=some x)(h2:H[j]?=some y)(D:π[i]?=some (some p))(E:π[j]?=some (some q))(z:x.eN=true)(I:y.isLive=true):p.blk≠q.blk:=
 fun e=>C.sepO i j x y p q p.blk m h1 h2 D E z (Blk.iE (Blk.bJ z)) (by rw[e];exact Blk.iE I)
theorem oz{out:Nat->Prop}{B:Nat->Prop}{w:World}{π:List (Option PB)}{H:List Blk}(D:Inv out B w π H)(o:Obj)(x:Blk)(p:PB)(hp:p.blk=w.heap.size){n:Nat}(M:n<=H.length)(N:∀q,π[n]?≠some (some q))(j:∀b,x.owns p b->p.blk=b:=by first|exact fun _ h=>h|exact fun _ h=>h.elim):
  Ext B w (w.alloc o) (aI out π H) (aI out (upd π n (some p)) (upd H n x)) π (upd π n (some p)):=by
 have T:=D.len;refine⟨fun b E=>?_,by simp,fun b E hm=>⟨?_,?_⟩,?_,rfl,rfl,rfl,fun _=>Nat.le_refl _⟩
 ·have:=D.bound b E;simp only[World.alloc,Array.getElem?_push];rw[if_neg (by omega)]
 ·simp only[World.alloc,Array.getElem?_push];rw[if_neg (by omega)]
 ·rintro(O|⟨i,y,q,h1,h2,I,J⟩)
  ·exact hm (.inl O)
  ·rcases fG M h1 with⟨rfl,rfl⟩|⟨hi,m⟩
   ·rcases fG (by omega) I with⟨_,e⟩|⟨z,_⟩
    ·cases e;have:=j b J;omega
    ·exact z rfl
   ·rcases fG (by omega) I with⟨e,_⟩|⟨_,C⟩
    ·exact hi e
    ·exact hm (.inr ⟨i,y,q,m,h2,C,J⟩)
 ·intro i q h;rw[eI (by omega),if_neg]
  ·exact h
  ·rintro rfl;exact N q h
theorem Inv.alloc{out:Nat->Prop}{B:Nat->Prop}{w:World}{π:List (Option PB)}{H:List Blk}(D:Inv out B w π H)(o:Obj)(x:Blk)(p:PB)(hp:p.blk=w.heap.size){n:Nat}(T:n<=H.length)(hf:∀q,π[n]?≠some (some q))
  (hx:dy (w.alloc o) (aI out (upd π n (some p)) (upd H n x)) (upd π n (some p)) p x) (E:∀b,x.owns p b->p.blk=b:=by first|exact fun _ h=>h|exact fun _ h=>h.elim):Inv out B (w.alloc o) (upd π n (some p)) (upd H n x):=by
 have hE:=oz D o x p hp T hf E;have hl:=D.len;have split:∀{j:Nat} {z:Blk} {q:PB},(upd H n x)[j]?=some z->(upd π n (some p))[j]?=some (some q)->(j=n/\z=x/\q=p)\/(j≠n/\H[j]?=some z/\π[j]?=some (some q)):=by
  intro j z q g1 g2;rcases fG T g1 with⟨rfl,rfl⟩|⟨hj,U⟩
  ·rcases fG (by omega) g2 with⟨_,e⟩|⟨Y,_⟩
   ·cases e;exact .inl ⟨rfl,rfl,rfl⟩
   ·exact(Y rfl).elim
  ·rcases fG (by omega) g2 with⟨e,_⟩|⟨_,a1⟩
   ·exact(hj e).elim
   ·exact .inr ⟨hj,U,a1⟩
 refine⟨by rw[cz (by omega),cz T,hl],fun b J=>by have:=D.bound b J;simp;omega,D.out_lt,?_,?_,?_⟩
 ·intro i y q b h1 h2 O;rcases split h1 h2 with⟨rfl,rfl,rfl⟩|⟨_,C,m⟩
  ·have:=E b O;exact⟨fun J=>by have:=D.bound _ J;omega,by simp;omega⟩
  ·have:=D.baseO i y q b C m O;exact⟨this.1,by simp;omega⟩
 ·intro i y q h1 h2;rcases split h1 h2 with⟨rfl,rfl,rfl⟩|⟨_,C,m⟩
  ·exact hx
  ·refine dy.ext hE (fun b J=>?_) (D.ok i y q C m);have:=D.baseO i y q b C m J;simp only[World.alloc,Array.getElem?_push];rw[if_neg (by omega)]
 ·intro i j y z q r b M h1 h2 O h4 h5 h6 h7;rcases split h1 O with⟨rfl,rfl,rfl⟩|⟨_,C,N⟩
  ·rcases split h2 h4 with⟨e,_,_⟩|⟨_,m,I⟩
   ·exact(M e.symm).elim
   ·have:=D.baseO j z r b m I h7;have:=E b h6;omega
  ·rcases split h2 h4 with⟨rfl,rfl,rfl⟩|⟨_,m,I⟩
   ·have:=D.baseO i y q b C N h6;have:=E b h7;omega
   ·exact D.sepO i j y z q r b M C m N I h5 h6 h7
theorem gV{w:World}{mu:Nat->Prop}{π:List (Option PB)}:∀(cs:List AV) (vs:List Value) (b o:Nat),RvL w mu π cs vs->(∀v∈vs,v.oneCell'=true)->
  (∀j v,vs[j]?=some v->w.cell? ⟨b,o+j,none⟩=some v)->RvC w mu π cs b o
 |[],_,_,_,_,_,_=>trivial
 |c::cs,vs,b,o,p,h1,hc=>by
  obtain⟨v,m,rfl,h2,q⟩:=p;refine⟨⟨v,by simpa using hc 0 v rfl,h1 v (by simp),h2⟩,gV cs m b (o+1) q (fun u hu=>h1 u (by simp[hu])) fun j u z=>?_⟩;have:=hc (j+1) u (by simpa using z);rwa[show o+1+j=o+(j+1)by omega]
theorem RvC.list{w:World}{mu:Nat->Prop}{π:List (Option PB)}:∀(cs:List AV) (b o:Nat),RvC w mu π cs b o->∃vs:List Value,vs.length=cs.length/\RvL w mu π cs vs/\(∀v∈vs,v.oneCell'=true)/\
  (∀j v,vs[j]?=some v->w.cell? ⟨b,o+j,none⟩=some v)
 |[],_,_,_=>⟨[],rfl,rfl,by simp,by simp⟩
 |c::cs,b,o,h=>by
  obtain⟨⟨v,h1,h2,p⟩,q⟩:=h;obtain⟨vs,z,C,D,E⟩:=RvC.list cs b (o+1) q;refine⟨v::vs,by simp[z],⟨v,vs,rfl,p,C⟩,fun u hu=>?_,fun j u m=>?_⟩
  ·rcases List.mem_cons.1 hu with rfl|hu
   ·exact h2
   ·exact D u hu
  ·cases j with
   |zero=>simp at m;subst m;exact h1
   |succ j=>
    have:=E j u (by simpa using m);rwa[show o+1+j=o+(j+1)by omega]at this
theorem RvL.length{w:World}{mu:Nat->Prop}{π:List (Option PB)}:∀(cs:List AV) (vs:List Value),RvL w mu π cs vs->vs.length=cs.length
 |[],_,h=>by cases h;rfl
 |c::cs,_,h=>by obtain⟨v,j,rfl,_,h2⟩:=h;simp[RvL.length cs j h2]
theorem RvL.get{w:World}{mu:Nat->Prop}{π:List (Option PB)}:∀(cs:List AV) (vs:List Value) (i:Nat) (c:AV),RvL w mu π cs vs->cs[i]?=some c->∃v,vs[i]?=some v/\Rv w mu π c v
 |[],_,i,c,h,hc=>by simp at hc
 |c::cs,_,i,m,h,hc=>by
  obtain⟨v,j,rfl,h1,h2⟩:=h;cases i with
  |zero=>simp at hc;subst hc;exact⟨v,rfl,h1⟩
  |succ i=>simpa using RvL.get cs j i m h2 (by simpa using hc)
theorem RvL.append{w:World}{mu:Nat->Prop}{π:List (Option PB)}:∀(cs m:List AV) (vs us:List Value),RvL w mu π cs vs->RvL w mu π m us->RvL w mu π (cs++m) (vs++us)
 |[],_,_,_,h,k=>by cases h;exact k
 |c::cs,m,_,us,h,k=>by obtain⟨v,j,rfl,h1,h2⟩:=h;exact⟨v,j++us,rfl,h1,RvL.append cs m j us h2 k⟩
theorem RvL.take{w:World}{mu:Nat->Prop}{π:List (Option PB)}:∀(n:Nat) (cs:List AV) (vs:List Value),RvL w mu π cs vs->RvL w mu π (cs.take n) (vs.take n)
 |0,_,_,_=>by simp[RvL]
 |n+1,[],_,h=>by cases h;simp[RvL]
 |n+1,c::cs,_,h=>by obtain⟨v,j,rfl,h1,h2⟩:=h;exact⟨v,j.take n,rfl,h1,RvL.take n cs j h2⟩
theorem RvL.drop{w:World}{mu:Nat->Prop}{π:List (Option PB)}:∀(n:Nat) (cs:List AV) (vs:List Value),RvL w mu π cs vs->RvL w mu π (cs.drop n) (vs.drop n)
 |0,_,_,h=>h
 |n+1,[],_,h=>by cases h;simp[RvL]
 |n+1,c::cs,_,h=>by obtain⟨v,j,rfl,h1,h2⟩:=h;exact RvL.drop n cs j h2
theorem RvL.set{w:World}{mu:Nat->Prop}{π:List (Option PB)}:∀(cs:List AV) (vs:List Value) (i:Nat) (A:AV) (v:Value),RvL w mu π cs vs->Rv w mu π A v->RvL w mu π (cs.set i A) (vs.set i v)
 |[],_,i,A,v,h,k=>by cases h;simp[RvL]
 |c::cs,_,i,A,v,h,k=>by
  obtain⟨u,j,rfl,h1,h2⟩:=h;cases i with
  |zero=>exact⟨v,j,rfl,k,h2⟩
  |succ i=>exact⟨u,j.set i v,rfl,h1,RvL.set cs j i A v h2 k⟩
theorem RvL.ml{w:World}{mu:Nat->Prop}{π:List (Option PB)}:∀(cs:List AV) (vs:List Value),vs.length=cs.length->(∀(i:Nat) (c:AV) (v:Value),cs[i]?=some c->vs[i]?=some v->Rv w mu π c v)->RvL w mu π cs vs
 |[],vs,h,_=>by simpa [RvL]using h
 |c::cs,[],h,_=>by simp at h
 |c::cs,v::vs,h,k=>⟨v,vs,rfl,k 0 c v rfl rfl,RvL.ml cs vs (by simpa using h) fun i c v h1 h2=>k (i+1) c v (by simpa using h1) (by simpa using h2)⟩
theorem RvC.get{w:World}{mu:Nat->Prop}{π:List (Option PB)}:∀(cs:List AV) (b o i:Nat) (c:AV),RvC w mu π cs b o->cs[i]?=some c->∃v,w.cell? ⟨b,o+i,none⟩=some v/\v.oneCell'=true/\Rv w mu π c v
 |[],_,_,i,c,_,hc=>by simp at hc
 |c::cs,b,o,i,j,h,hc=>by
  obtain⟨⟨v,h1,h2,m⟩,p⟩:=h;cases i with
  |zero=>simp at hc;subst hc;exact⟨v,h1,h2,m⟩
  |succ i=>
   have:=RvC.get cs b (o+1) i j p (by simpa using hc);rwa[show o+1+i=o+(i+1)by omega]at this
theorem RvC.drop{w:World}{mu:Nat->Prop}{π:List (Option PB)}:∀(n:Nat) (cs:List AV) (b o:Nat),RvC w mu π cs b o->RvC w mu π (cs.drop n) b (o+n)
 |0,_,_,_,h=>h
 |n+1,[],_,_,_=>by simp[RvC]
 |n+1,c::cs,b,o,h=>by
  have:=RvC.drop n cs b (o+1) h.2;rwa[show o+1+n=o+(n+1)by omega]at this
theorem RvC.take{w:World}{mu:Nat->Prop}{π:List (Option PB)}:∀(n:Nat) (cs:List AV) (b o:Nat),RvC w mu π cs b o->RvC w mu π (cs.take n) b o
 |0,_,_,_,_=>by simp[RvC]
 |n+1,[],_,_,_=>by simp[RvC]
 |n+1,c::cs,b,o,h=>⟨h.1,RvC.take n cs b (o+1) h.2⟩
theorem RvC.bound{w:World}{mu:Nat->Prop}{π:List (Option PB)}{cs:List AV}{b o:Nat}{c:Array Value}{e:TypeId}{f:Nat×Nat}(h:RvC w mu π cs b o)(m:w.heap[b]?=some (.cells c e f))(j:cs≠[]):
  o+cs.length<=c.size:=by
 have p:cs.length-1<cs.length:=by have:=List.length_pos_iff.2 j;omega
 obtain⟨v,h1,_⟩:=RvC.get cs b o (cs.length-1) cs[cs.length-1] h (List.getElem?_eq_getElem p);simp only[World.cell?,m]at h1;have:=(Array.getElem?_eq_some_iff.1 (by simpa using h1)).1;omega
theorem cu{α:Type}{l:List α}{i j:Nat}{y x:α}(h:(l.set i y)[j]?=some x):(i=j/\x=y)\/(i≠j/\l[j]?=some x):=by
 rw[List.getElem?_set]at h;split at h
 ·rename_i m;subst m;split at h
  ·cases h;exact .inl ⟨rfl,rfl⟩
  ·cases h
 ·rename_i m;exact .inr ⟨m,h⟩
theorem Inv.pv{out:Nat->Prop}{B:Nat->Prop}{w w':World}{π:List (Option PB)}{H:List Blk}(C:Inv out B w π H){i:Nat}{x:Blk}{p:PB}(h1:H[i]?=some x)(hp:π[i]?=some (some p))(hm:x.eN=true)(y:Blk)
  (hs:w'.heap.size=w.heap.size) (O:∀b,b≠p.blk->w'.heap[b]?=w.heap[b]?) (ho:w'.os=w.os) (ht:w'.tape=w.tape) (hu:w'.output=w.output) (hd:Dr.d=true->w.drawn<=w'.drawn)
  (hy:Ext B w w' (aI out π H) (aI out π (H.set i y)) π π->dy w' (aI out π (H.set i y)) π p y) (D:∀b,y.owns p b->x.owns p b:=by first|exact fun _ h=>h|exact fun _ h=>h.elim):
  Ext B w w' (aI out π H) (aI out π (H.set i y)) π π/\Inv out B w' π (H.set i y):=by
 have T:Ext B w w' (aI out π H) (aI out π (H.set i y)) π π:=by
  refine⟨fun b J=>O b (by rintro rfl;exact(C.base i x p h1 hp (Blk.bJ hm)).1 J),by omega,fun b J N=>?_,fun _ _ h=>h,ho,ht,hu,hd⟩;have U:b≠p.blk:=fun e=>N (.inr ⟨i,x,p,h1,hm,hp,by rw[e];exact Blk.iE (Blk.bJ hm)⟩)
  refine⟨O b U,?_⟩;rintro(Y|⟨j,z,q,g1,g2,g3,g4⟩)
  ·exact N (.inl Y)
  ·rcases cu g1 with⟨rfl,rfl⟩|⟨_,m⟩
   ·rw[hp]at g3;cases g3;exact N (.inr ⟨i,x,p,h1,hm,hp,D b g4⟩)
   ·exact N (.inr ⟨j,z,q,m,g2,g3,g4⟩)
 refine⟨T,by simp[C.len],fun b J=>by have:=C.bound b J;omega,C.out_lt,?_,?_,?_⟩
 ·intro j z q b g1 g2 g3;rcases cu g1 with⟨rfl,rfl⟩|⟨_,m⟩
  ·rw[hp]at g2;cases g2;have:=C.baseO i x p b h1 hp (D b g3);exact⟨this.1,by omega⟩
  ·have:=C.baseO j z q b m g2 g3;exact⟨this.1,by omega⟩
 ·intro j z q g1 g2;rcases cu g1 with⟨rfl,rfl⟩|⟨M,m⟩
  ·rw[hp]at g2;cases g2;exact hy T
  ·exact dy.ext T (fun b J=>O _ (fun e=>C.sepO i j x z p q b M h1 m hp g2 hm (by rw[e];exact Blk.iE (Blk.bJ hm)) J)) (C.ok j z q m g2)
 ·intro j k z t q r b E g1 g2 g3 g4 g5 g6 g7;rcases cu g1 with⟨rfl,rfl⟩|⟨M,m⟩
  ·rw[hp]at g3;cases g3;rcases cu g2 with⟨rfl,_⟩|⟨_,I⟩
   ·exact(E rfl).elim
   ·exact C.sepO i k x t p r b E h1 I hp g4 hm (D b g6) g7
  ·rcases cu g2 with⟨rfl,rfl⟩|⟨_,I⟩
   ·rw[hp]at g4;cases g4;exact C.sepO j i z x q p b E m h1 g3 hp g5 g6 (D b g7)
   ·exact C.sepO j k z t q r b E m I g3 g4 g5 g6 g7
theorem Inv.kill{out:Nat->Prop}{B:Nat->Prop}{w w':World}{π:List (Option PB)}{H:List Blk}(p:Inv out B w π H)(i:Nat)(C:w'.heap=w.heap)(N:w'.os=w.os)(O:w'.tape=w.tape)(hu:w'.output=w.output)(T:Dr.d=true->w.drawn<=w'.drawn):
  Ext B w w' (aI out π H) (aI out π (H.set i .dead)) π π/\Inv out B w' π (H.set i .dead):=by
 have J:Ext B w w' (aI out π H) (aI out π (H.set i .dead)) π π:=by
  refine⟨fun b _=>by rw[C],by rw[C];exact Nat.le_refl _,fun b _ M=>⟨by rw[C],?_⟩,fun _ _ h=>h,N,O,hu,T⟩;rintro(D|⟨j,z,q,g1,g2,g3,g4⟩)
  ·exact M (.inl D)
  ·rcases cu g1 with⟨rfl,rfl⟩|⟨_,m⟩
   ·simp[Blk.eN]at g2
   ·exact M (.inr ⟨j,z,q,m,g2,g3,g4⟩)
 refine⟨J,by simp[p.len],by rw[C];exact p.bound,p.out_lt,?_,?_,?_⟩
 ·intro j z q b g1 g2 g3;rcases cu g1 with⟨rfl,rfl⟩|⟨_,m⟩
  ·exact g3.elim
  ·rw[C];exact p.baseO j z q b m g2 g3
 ·intro j z q g1 g2;rcases cu g1 with⟨rfl,rfl⟩|⟨_,m⟩
  ·trivial
  ·exact dy.ext J (fun _ _=>by rw[C]) (p.ok j z q m g2)
 ·intro j k z t q r b E g1 g2 g3 g4 g5 g6 g7;rcases cu g1 with⟨rfl,rfl⟩|⟨_,m⟩
  ·simp[Blk.eN]at g5
  ·rcases cu g2 with⟨rfl,rfl⟩|⟨_,I⟩
   ·exact g7.elim
   ·exact p.sepO j k z t q r b E m I g3 g4 g5 g6 g7
theorem Inv.vK{out:Nat->Prop}{B:Nat->Prop}{w:World}{π:List (Option PB)}{H:List Blk}(p:Inv out B w π H){n:Nat}(M:n<=H.length)(O:∀q,π[n]?≠some (some q))(y:Blk):
  Ext B w w (aI out π H) (aI out (upd π n none) (upd H n y)) π (upd π n none)/\Inv out B w (upd π n none) (upd H n y):=by
 have T:=p.len;have split:∀{j:Nat} {z:Blk} {q:PB},(upd H n y)[j]?=some z->(upd π n none)[j]?=some (some q)->H[j]?=some z/\π[j]?=some (some q):=by
  intro j z q g1 g2;rcases fG M g1 with⟨rfl,rfl⟩|⟨U,C⟩
  ·rcases fG (by omega) g2 with⟨_,e⟩|⟨D,_⟩
   ·cases e
   ·exact(D rfl).elim
  ·rcases fG (by omega) g2 with⟨e,_⟩|⟨_,E⟩
   ·exact(U e).elim
   ·exact⟨C,E⟩
 have I:∀b,aI out (upd π n none) (upd H n y) b->aI out π H b:=by
  rintro b (m|⟨j,z,q,g1,g2,g3,g4⟩)
  ·exact .inl m
  ·obtain⟨f1,f2⟩:=split g1 g3;exact .inr ⟨j,z,q,f1,g2,f2,g4⟩
 have N:Ext B w w (aI out π H) (aI out (upd π n none) (upd H n y)) π (upd π n none):=⟨fun _ _=>rfl,Nat.le_refl _,fun b _ Y=>⟨rfl,fun m=>Y (I b m)⟩,fun j q h=>by
  rw[eI (by omega),if_neg]
  ·exact h
  ·rintro rfl;exact O q h,rfl,rfl,rfl,fun _=>Nat.le_refl _⟩
 refine⟨N,by rw[cz (by omega),cz M,T],p.bound,p.out_lt,?_,?_,?_⟩
 ·intro j z q b g1 g2 g3;obtain⟨f1,f2⟩:=split g1 g2;exact p.baseO j z q b f1 f2 g3
 ·intro j z q g1 g2;obtain⟨f1,f2⟩:=split g1 g2;exact dy.ext N (fun _ _=>rfl) (p.ok j z q f1 f2)
 ·intro j k z t q r b J g1 g2 g3 g4 g5 g6 g7;obtain⟨f1,f3⟩:=split g1 g3;obtain⟨f2,f4⟩:=split g2 g4;exact p.sepO j k z t q r b J f1 f2 f3 f4 g5 g6 g7
theorem Inv.grow{out:Nat->Prop}{B:Nat->Prop}{w w':World}{π:List (Option PB)}{H:List Blk}(D:Inv out B w π H){i:Nat}{x:Blk}{p:PB}(h1:H[i]?=some x)(hp:π[i]?=some (some p))(hm:x.eN=true)(y:Blk)(p':PB)(b0:p'.blk=p.blk)
  {n:Nat} (hn:n<=H.length) (hf:∀q,π[n]?≠some (some q))
  (hs:w'.heap.size=w.heap.size) (hh:∀b,b≠p.blk->w'.heap[b]?=w.heap[b]?) (ho:w'.os=w.os) (ht:w'.tape=w.tape) (hu:w'.output=w.output) (hd:Dr.d=true->w.drawn<=w'.drawn)
  (hy:Ext B w w' (aI out π H) (aI out (upd π n (some p')) (upd (H.set i .dead) n y)) π (upd π n (some p'))->dy w' (aI out (upd π n (some p')) (upd (H.set i .dead) n y)) (upd π n (some p')) p' y)
  (I:∀b,y.owns p' b->x.owns p b:=by first|exact fun _ h=>h|exact fun _ h=>h.elim):
  Ext B w w' (aI out π H) (aI out (upd π n (some p')) (upd (H.set i .dead) n y)) π (upd π n (some p'))/\Inv out B w' (upd π n (some p')) (upd (H.set i .dead) n y):=by
 have hl:=D.len;have T:n<=(H.set i .dead).length:=by simpa using hn
 have split:∀{j:Nat} {z:Blk} {q:PB},(upd (H.set i .dead) n y)[j]?=some z->(upd π n (some p'))[j]?=some (some q)->z.isLive=true->(j=n/\z=y/\q=p')\/(i≠j/\j≠n/\H[j]?=some z/\π[j]?=some (some q)):=by
  intro j z q g1 g2 g3;rcases fG T g1 with⟨rfl,rfl⟩|⟨hj,m⟩
  ·rcases fG (by omega) g2 with⟨_,e⟩|⟨a1,_⟩
   ·cases e;exact .inl ⟨rfl,rfl,rfl⟩
   ·exact(a1 rfl).elim
  ·rcases fG (by omega) g2 with⟨e,_⟩|⟨_,C⟩
   ·exact(hj e).elim
   ·rcases cu m with⟨rfl,rfl⟩|⟨E,U⟩
    ·simp[Blk.isLive]at g3
    ·exact .inr ⟨E,hj,U,C⟩
 have hE:Ext B w w' (aI out π H) (aI out (upd π n (some p')) (upd (H.set i .dead) n y)) π (upd π n (some p')):=by
  refine⟨fun b O=>hh b (by rintro rfl;exact(D.base i x p h1 hp (Blk.bJ hm)).1 O),by omega,fun b O J=>?_,fun j q h=>?_,ho,ht,hu,hd⟩
  ·have a6:b≠p.blk:=fun e=>J (.inr ⟨i,x,p,h1,hm,hp,by rw[e];exact Blk.iE (Blk.bJ hm)⟩)
   refine⟨hh b a6,?_⟩;rintro(a7|⟨j,z,q,g1,g2,g3,g4⟩)
   ·exact J (.inl a7)
   ·rcases split g1 g3 (Blk.bJ g2)with⟨_,rfl,rfl⟩|⟨_,_,m,M⟩
    ·exact J (.inr ⟨i,x,p,h1,hm,hp,I b g4⟩)
    ·exact J (.inr ⟨j,z,q,m,g2,M,g4⟩)
  ·rw[eI (by omega),if_neg]
   ·exact h
   ·rintro rfl;exact hf q h
 refine⟨hE,by rw[cz (by omega),cz T,List.length_set,hl],fun b O=>by have:=D.bound b O;omega,D.out_lt,?_,?_,?_⟩
 ·intro j z q b g1 g2 g3;rcases split g1 g2 (Blk.di g3)with⟨_,rfl,rfl⟩|⟨_,_,m,C⟩
  ·have:=D.baseO i x p b h1 hp (I b g3);exact⟨this.1,by omega⟩
  ·have:=D.baseO j z q b m C g3;exact⟨this.1,by omega⟩
 ·intro j z q g1 g2;cases hz:z.isLive with
  |false=>cases z<;>simp_all [Blk.isLive,dy]
  |true=>
   rcases split g1 g2 hz with⟨_,rfl,rfl⟩|⟨E,_,m,C⟩
   ·exact hy hE
   ·exact dy.ext hE (fun b O=>hh _ (fun e=>D.sepO i j x z p q b E h1 m hp C hm (by rw[e];exact Blk.iE (Blk.bJ hm)) O)) (D.ok j z q m C)
 ·intro j k z t q r b a8 g1 g2 g3 g4 g5 g6 g7;rcases split g1 g3 (Blk.bJ g5)with⟨hj,rfl,rfl⟩|⟨E,_,m,M⟩
  ·rcases split g2 g4 (Blk.di g7)with⟨hk,_,_⟩|⟨Y,_,C,N⟩
   ·omega
   ·exact D.sepO i k x t p r b Y h1 C hp N hm (I b g6) g7
  ·rcases split g2 g4 (Blk.di g7)with⟨hk,rfl,rfl⟩|⟨Y,_,C,N⟩
   ·exact D.sepO j i z x q p b (fun e=>E e.symm) m h1 M hp g5 g6 (I b g7)
   ·exact D.sepO j k z t q r b a8 m C M N g5 g6 g7
theorem Inv.move{out:Nat->Prop}{B:Nat->Prop}{w w':World}{π:List (Option PB)}{H:List Blk}(D:Inv out B w π H){i:Nat}{x:Blk}{p:PB}(h1:H[i]?=some x)(hp:π[i]?=some (some p))(hm:x.eN=true)(y:Blk)(p':PB)
  {n:Nat} (hn:n<=H.length) (hf:∀q,π[n]?≠some (some q))
  (hs:w.heap.size<=w'.heap.size) (hh:∀b,b<w.heap.size->¬x.owns p b->w'.heap[b]?=w.heap[b]?) (ho:w'.os=w.os) (ht:w'.tape=w.tape) (hu:w'.output=w.output) (hd:Dr.d=true->w.drawn<=w'.drawn)
  (M:∀b,y.owns p' b->x.owns p b\/(w.heap.size<=b/\b<w'.heap.size))
  (hy:Ext B w w' (aI out π H) (aI out (upd π n (some p')) (upd (H.set i .dead) n y)) π (upd π n (some p'))->dy w' (aI out (upd π n (some p')) (upd (H.set i .dead) n y)) (upd π n (some p')) p' y):
  Ext B w w' (aI out π H) (aI out (upd π n (some p')) (upd (H.set i .dead) n y)) π (upd π n (some p'))/\Inv out B w' (upd π n (some p')) (upd (H.set i .dead) n y):=by
 have hl:=D.len;have T:n<=(H.set i .dead).length:=by simpa using hn
 have split:∀{j:Nat} {z:Blk} {q:PB},(upd (H.set i .dead) n y)[j]?=some z->(upd π n (some p'))[j]?=some (some q)->z.isLive=true->(j=n/\z=y/\q=p')\/(i≠j/\j≠n/\H[j]?=some z/\π[j]?=some (some q)):=by
  intro j z q g1 g2 g3;rcases fG T g1 with⟨rfl,rfl⟩|⟨hj,m⟩
  ·rcases fG (by omega) g2 with⟨_,e⟩|⟨a1,_⟩
   ·cases e;exact .inl ⟨rfl,rfl,rfl⟩
   ·exact(a1 rfl).elim
  ·rcases fG (by omega) g2 with⟨e,_⟩|⟨_,C⟩
   ·exact(hj e).elim
   ·rcases cu m with⟨rfl,rfl⟩|⟨E,U⟩
    ·simp[Blk.isLive]at g3
    ·exact .inr ⟨E,hj,U,C⟩
 have hE:Ext B w w' (aI out π H) (aI out (upd π n (some p')) (upd (H.set i .dead) n y)) π (upd π n (some p')):=by
  refine⟨fun b I=>hh b (D.bound b I) (fun h=>(D.baseO i x p b h1 hp h).1 I),hs,fun b I N=>?_,fun j q h=>?_,ho,ht,hu,hd⟩
  ·refine⟨hh b I (fun h=>N (.inr ⟨i,x,p,h1,hm,hp,h⟩)),?_⟩;rintro(a6|⟨j,z,q,g1,g2,g3,g4⟩)
   ·exact N (.inl a6)
   ·rcases split g1 g3 (Blk.bJ g2)with⟨_,rfl,rfl⟩|⟨_,_,m,J⟩
    ·rcases M b g4 with h|h
     ·exact N (.inr ⟨i,x,p,h1,hm,hp,h⟩)
     ·omega
    ·exact N (.inr ⟨j,z,q,m,g2,J,g4⟩)
  ·rw[eI (by omega),if_neg]
   ·exact h
   ·rintro rfl;exact hf q h
 refine⟨hE,by rw[cz (by omega),cz T,List.length_set,hl],fun b I=>by have:=D.bound b I;omega,D.out_lt,?_,?_,?_⟩
 ·intro j z q b g1 g2 g3;rcases split g1 g2 (Blk.di g3)with⟨_,rfl,rfl⟩|⟨_,_,m,C⟩
  ·rcases M b g3 with h|h
   ·have:=D.baseO i x p b h1 hp h;exact⟨this.1,by omega⟩
   ·exact⟨fun I=>by have:=D.bound b I;omega,h.2⟩
  ·have:=D.baseO j z q b m C g3;exact⟨this.1,by omega⟩
 ·intro j z q g1 g2;cases hz:z.isLive with
  |false=>cases z<;>simp_all [Blk.isLive,dy]
  |true=>
   rcases split g1 g2 hz with⟨_,rfl,rfl⟩|⟨E,_,m,C⟩
   ·exact hy hE
   ·exact dy.ext hE (fun b I=>hh _ (D.baseO j z q b m C I).2 (fun e=>D.sepO i j x z p q b E h1 m hp C hm e I)) (D.ok j z q m C)
 ·intro j k z t q r b a7 g1 g2 g3 g4 g5 g6 g7;rcases split g1 g3 (Blk.bJ g5)with⟨hj,rfl,rfl⟩|⟨E,_,m,J⟩
  ·rcases split g2 g4 (Blk.di g7)with⟨hk,_,_⟩|⟨Y,_,C,O⟩
   ·omega
   ·rcases M b g6 with h|h
    ·exact D.sepO i k x t p r b Y h1 C hp O hm h g7
    ·have:=(D.baseO k t r b C O g7).2;omega
  ·rcases split g2 g4 (Blk.di g7)with⟨hk,rfl,rfl⟩|⟨Y,_,C,O⟩
   ·rcases M b g7 with h|h
    ·exact D.sepO j i z x q p b (fun e=>E e.symm) m h1 J hp g5 g6 h
    ·have:=(D.baseO j z q b m J g6).2;omega
   ·exact D.sepO j k z t q r b a7 m C J O g5 g6 g7
theorem RvW.av{w:World}{mu:Nat->Prop}{π:List (Option PB)}:∀(rs:List RC) (j:Nat->Option (Nat×Nat×Nat)) (b o i:Nat) (A:AV),RvW w mu π rs j b o->rs[i]?=some (.av A)->∃v,w.cell? ⟨b,o+i,none⟩=some v/\v.oneCell'=true/\Rv w mu π A v
 |[],_,_,_,i,A,_,hc=>by simp at hc
 |.row len es cs::rs,j,b,o,0,A,h,hc=>by simp at hc
 |.av m::rs,j,b,o,0,A,h,hc=>by
  simp only[List.getElem?_cons_zero,Option.some.injEq,RC.av.injEq]at hc;subst hc;exact h.1
 |.row len es cs::rs,j,b,o,i+1,A,h,hc=>by
  have:=RvW.av rs _ b (o+1) i A h.2 (by simpa using hc);rwa[show o+1+i=o+(i+1)by omega]at this
 |.av m::rs,j,b,o,i+1,A,h,hc=>by
  have:=RvW.av rs _ b (o+1) i A h.2 (by simpa using hc);rwa[show o+1+i=o+(i+1)by omega]at this
theorem RvW.row{w:World}{mu:Nat->Prop}{π:List (Option PB)}:∀(rs:List RC) (j:Nat->Option (Nat×Nat×Nat)) (b o i len es:Nat) (cs:List AV),RvW w mu π rs j b o->rs[i]?=some (.row len es cs)->∃v,w.cell? ⟨b,o+i,none⟩=some v/\sz w mu (j i) len es cs v
 |[],_,_,_,i,_,_,_,_,hc=>by simp at hc
 |.row m es' cs'::rs,j,b,o,0,len,es,cs,h,hc=>by
  simp only[List.getElem?_cons_zero,Option.some.injEq,RC.row.injEq]at hc;obtain⟨rfl,rfl,rfl⟩:=hc;exact h.1
 |.av p::rs,j,b,o,0,len,es,cs,h,hc=>by simp at hc
 |.row m es' cs'::rs,j,b,o,i+1,len,es,cs,h,hc=>by
  have:=RvW.row rs _ b (o+1) i len es cs h.2 (by simpa using hc);rwa[show o+1+i=o+(i+1)by omega]at this
 |.av p::rs,j,b,o,i+1,len,es,cs,h,hc=>by
  have:=RvW.row rs _ b (o+1) i len es cs h.2 (by simpa using hc);rwa[show o+1+i=o+(i+1)by omega]at this
def RcV(w:World)(mu:Nat->Prop)(π:List (Option PB))(s:Option (Nat×Nat×Nat)):RC->Value->Prop
 |.row len es cs,v=>sz w mu s len es cs v
 |.av A,v=>v.oneCell'=true/\Rv w mu π A v
theorem RvW.of{w:World}{mu:Nat->Prop}{π:List (Option PB)}:∀(rs:List RC) (j:Nat->Option (Nat×Nat×Nat)) (b o:Nat),(∀(i:Nat) (x:RC),rs[i]?=some x->∃v,w.cell? ⟨b,o+i,none⟩=some v/\RcV w mu π (j i) x v)->RvW w mu π rs j b o
 |[],_,_,_,_=>trivial
 |.row len es cs::rs,j,b,o,h=>⟨by simpa [RcV]using h 0 _ rfl,RvW.of rs _ b (o+1) fun i x m=>by
   have:=h (i+1) x (by simpa using m);rwa[show o+(i+1)=o+1+i by omega]at this⟩
 |.av A::rs,j,b,o,h=>⟨by simpa [RcV]using h 0 _ rfl,RvW.of rs _ b (o+1) fun i x m=>by
   have:=h (i+1) x (by simpa using m);rwa[show o+(i+1)=o+1+i by omega]at this⟩
theorem RvW.at{w:World}{mu:Nat->Prop}{π:List (Option PB)}{rs:List RC}{j:Nat->Option (Nat×Nat×Nat)}{b o:Nat}(h:RvW w mu π rs j b o){i:Nat}{x:RC}(m:rs[i]?=some x):∃v,w.cell? ⟨b,o+i,none⟩=some v/\RcV w mu π (j i) x v:=by
 cases x with
 |row len es cs=>exact RvW.row rs j b o i len es cs h m
 |av A=>obtain⟨v,h1,h2,p⟩:=RvW.av rs j b o i A h m;exact⟨v,h1,h2,p⟩
theorem RcV.one{w:World}{mu:Nat->Prop}{π:List (Option PB)}{s:Option (Nat×Nat×Nat)}{x:RC}{v:Value}(h:RcV w mu π s x v):v.oneCell'=true:=by
 cases x with
 |row len es cs=>rcases h with⟨_,_,rfl⟩|⟨q,a,cap,c,e,_,rfl,_⟩<;>rfl
 |av A=>exact h.1
theorem RcV.ext{B:Nat->Prop}{w w':World}{mu mu':Nat->Prop}{π π':List (Option PB)}(h:Ext B w w' mu mu' π π'){s:Option (Nat×Nat×Nat)}{x:RC}{v:Value}(hs:∀len es cs q,x=.row len es cs->s=some q->w'.heap[q.1]?=w.heap[q.1]?)(j:RcV w mu π s x v):RcV w' mu' π' s x v:=by
 cases x with
 |row len es cs=>exact sz.ext h (fun q e=>hs len es cs q rfl e) j
 |av A=>exact⟨j.1,Rv.ext h A v j.2⟩
theorem RvW.bound{w:World}{mu:Nat->Prop}{π:List (Option PB)}{rs:List RC}{j:Nat->Option (Nat×Nat×Nat)}{b o:Nat}{c:Array Value}{e:TypeId}{f:Nat×Nat}(h:RvW w mu π rs j b o)(m:w.heap[b]?=some (.cells c e f)){i:Nat}(hi:i<rs.length):
  o+i<c.size:=by
 obtain⟨v,h1,_⟩:=RvW.at h (List.getElem?_eq_getElem hi);simp only[World.cell?,m]at h1;exact(Array.getElem?_eq_some_iff.1 (by simpa using h1)).1
theorem RvW.L9{w:World}{mu:Nat->Prop}{π:List (Option PB)}{rs:List RC}{q:Nat->Option (Nat×Nat×Nat)}{b o:Nat}(h:RvW w mu π rs q b o)(n:Nat)(E:n<=rs.length):
  ∃os:List Value,os.length=n/\(∀u∈os,u.oneCell'=true)/\∀j u,os[j]?=some u->w.cell? ⟨b,o+j,none⟩=some u/\∃x,rs[j]?=some x/\RcV w mu π (q j) x u:=by
 have key:∀j,j<n->∃u,w.cell? ⟨b,o+j,none⟩=some u/\∃x,rs[j]?=some x/\RcV w mu π (q j) x u:=by
  intro j C;have p:j<rs.length:=by omega
  obtain⟨u,h1,h2⟩:=RvW.at h (List.getElem?_eq_getElem p);exact⟨u,h1,_,List.getElem?_eq_getElem p,h2⟩
 have get:∀j u,((List.range n).map fun j=>(w.cell? ⟨b,o+j,none⟩).getD default)[j]?=some u->w.cell? ⟨b,o+j,none⟩=some u/\∃x,rs[j]?=some x/\RcV w mu π (q j) x u:=by
  intro j u hu;rw[List.getElem?_map]at hu;cases z:(List.range n)[j]? with
  |none=>rw[z]at hu;cases hu
  |some k=>
   have m:j<n:=by have:=aK z;simpa using this
   rw[List.getElem?_range m]at z;cases z;obtain⟨v,v1,v2⟩:=key j m;rw[List.getElem?_range m,Option.map_some,v1]at hu;cases hu;exact⟨v1,v2⟩
 refine⟨(List.range n).map fun j=>(w.cell? ⟨b,o+j,none⟩).getD default,by simp,fun u hu=>?_,get⟩;obtain⟨j,C⟩:=List.getElem?_of_mem hu;obtain⟨_,x,_,D⟩:=get j u C;exact D.one
theorem Rv.lift{w:World}{mu:Nat->Prop}{π:List (Option PB)}{A:AV}{v:Value}(h:Rv w mu [] A v):Rv w mu π A v:=
 Rv.ext (B:=fun _=>False) ⟨fun _ _=>rfl,Nat.le_refl _,fun _ _ h=>⟨rfl,h⟩,fun i p hp=>by simp at hp,rfl,rfl,rfl,fun _=>Nat.le_refl _⟩ A v h
theorem RvC.lift{w:World}{mu:Nat->Prop}{π:List (Option PB)}{cs:List AV}{b o:Nat}(h:RvC w mu [] cs b o):RvC w mu π cs b o:=
 RvC.ext (B:=fun _=>False) ⟨fun _ _=>rfl,Nat.le_refl _,fun _ _ h=>⟨rfl,h⟩,fun i p hp=>by simp at hp,rfl,rfl,rfl,fun _=>Nat.le_refl _⟩ cs b o rfl h
end Go.Eng


namespace Go.Eng
open Go
variable[Dr]
def gJ{α:Type}(P:Program):Sem α->Option α
 |.pure a=>some a
 |.program k=>gJ P (k P)
 |.mark _ k=>gJ P k
 |_=>none
theorem fD{α:Type}{P:Program}{s:Sem α}{a:α}(h:gJ P s=some a)(w:World):s.run P w=.ok a w:=by
 induction s with
 |pure b=>simp[gJ]at h;subst h;rfl
 |program k j=>exact j P (by simpa [gJ]using h)
 |mark m k j=>exact j (by simpa [gJ]using h)
 |_=>simp[gJ]at h
mutual
def toV:AV->Option Value
 |.at v=>some v
 |.agg cs=>match Ad cs with|some l=>some (.agg l.toArray)|none=>none
 |_=>none
def Ad:List AV->Option (List Value)
 |[]=>some []
 |c::cs=>match toV c,Ad cs with|some v,some l=>some (v::l)|_,_=>none
end
mutual
theorem iD{w:World}{mu:Nat->Prop}{π:List (Option PB)}:(A:AV)->(v x:Value)->Rv w mu π A v->toV A=some x->v=x
 |.at y,v,x,h,e=>by simp[toV]at e;subst e;exact h
 |.agg cs,v,x,h,e=>by
  obtain⟨vs,rfl,j⟩:=h;simp only[toV]at e;split at e
  ·rename_i l m;cases e;have:=mL cs vs.toList l j m;rw[<-this]
  ·cases e
 |.unk,_,_,_,e|.sl ..,_,_,_,e|.pp ..,_,_,_,e|.hs ..,_,_,_,e|.hc ..,_,_,_,e|.hp ..,_,_,_,e|.mp ..,_,_,_,e|.tup ..,_,_,_,e|.fn ..,_,_,_,e=>by simp[toV]at e
theorem mL{w:World}{mu:Nat->Prop}{π:List (Option PB)}:(cs:List AV)->(vs l:List Value)->RvL w mu π cs vs->Ad cs=some l->vs=l
 |[],vs,l,h,e=>by simp[Ad]at e;subst e;exact h
 |c::cs,vs,l,h,e=>by
  obtain⟨v,j,rfl,h1,h2⟩:=h;simp only[Ad]at e;split at e
  ·rename_i y p q m;cases e;rw[iD c v y h1 q,mL cs j p h2 m]
  ·cases e
end
def eG(P:Program)(t:TypeId):Option Nat:=match P.info? t with|some i=>some i.size|none=>none
def mz(P:Program)(t:TypeId):Option Nat:=match P.info? t with|some i=>some i.bytes|none=>none
def DY(P:Program)(t:TypeId):Option Bool:=match P.underlying t with|some (.struct _)=>some true|some (.array _ _)=>some true|some _=>some false|none=>none
def jP(P:Program)(t:TypeId):Option (List AV):=match P.info? t with|some i=>(match i.zero with|some z=>some (z.cells.toList.map .at)|none=>none)|none=>none
def cellsOf:AV->List AV
 |.agg cs=>cs
 |.at (.agg a)=>a.toList.map .at
 |x=>[x]
def fq:AV->Bool
 |.unk|.agg _|.tup _=>false
 |.at v=>v.oneCell'
 |_=>true
theorem fz{w:World}{mu:Nat->Prop}{π:List (Option PB)}{A:AV}{v:Value}(h:Rv w mu π A v)(hc:fq A=true):v.oneCell'=true:=by
 cases A<;>simp only[fq,Rv]at h hc
 case «at» x=>subst h;exact hc
 case sl nl cs len=>rcases h with⟨_,_,_,rfl⟩|⟨b,o,cap,rfl,_⟩|⟨_,_,a,cap,rfl⟩<;>rfl
 case pp cs off=>obtain⟨b,o,rfl,_⟩:=h;rfl
 case hs=>rcases h with⟨_,rfl⟩|⟨p,a,cap,_,rfl,_⟩<;>rfl
 case hc=>obtain⟨p,_,_,rfl,_⟩:=h;rfl
 case hp=>obtain⟨p,_,rfl⟩:=h;rfl
 case mp=>obtain⟨p,_,rfl⟩:=h;rfl
 case fn=>obtain⟨a,c,rfl,_⟩:=h;rfl
 all_goals simp at hc
theorem ff{w:World}{mu:Nat->Prop}{π:List (Option PB)}:∀(l:List Value),RvL w mu π (l.map .at) l
 |[]=>rfl
 |v::l=>⟨v,l,rfl,rfl,ff l⟩
theorem kG{w:World}{mu:Nat->Prop}{π:List (Option PB)}{A:AV}{v:Value}(h:Rv w mu π A v)(hc:(cellsOf A).all fq=true):
  RvL w mu π (cellsOf A) v.cells.toList/\∀u∈v.cells.toList,u.oneCell'=true:=by
 have key:RvL w mu π (cellsOf A) v.cells.toList:=by
  have one:∀{A:AV} {v:Value},Rv w mu π A v->v.oneCell'=true->RvL w mu π [A] v.cells.toList:=by
   intro A v h h1;have m:v.cells=#[v]:=by cases v<;>simp_all [Value.cells,Value.oneCell']
   rw[m];exact⟨v,[],rfl,h,rfl⟩
  cases A with
  |agg cs=>obtain⟨vs,rfl,h2⟩:=h;exact h2
  |«at» x=>
   cases x with
   |agg a=>cases h;exact ff a.toList
   |_=>exact one h (fz h (by simpa [cellsOf]using hc))
  |unk=>simp[cellsOf,fq]at hc
  |tup=>simp[cellsOf,fq]at hc
  |sl nl cs len=>exact one h (fz h rfl)
  |pp=>exact one h (fz h rfl)
  |hs=>exact one h (fz h rfl)
  |hc=>exact one h (fz h rfl)
  |hp=>exact one h (fz h rfl)
  |mp=>exact one h (fz h rfl)
  |fn=>exact one h (fz h rfl)
 refine⟨key,?_⟩;generalize cellsOf A=cs at*;generalize v.cells.toList=vs at*;clear h;induction cs generalizing vs with
 |nil=>cases key;simp
 |cons c cs p=>
  obtain⟨u,us,rfl,h1,h2⟩:=key;simp only[List.all_cons,Bool.and_eq_true]at hc;intro x j;rcases List.mem_cons.1 j with rfl|j
  ·exact fz h1 hc.1
  ·exact p hc.2 us h2 x j
def setCells:List AV->Nat->List AV->List AV
 |cs,_,[]=>cs
 |cs,off,x::xs=>setCells (cs.set off x) (off+1) xs
def rI(place:Nat->Option (Nat×Nat))(cells:List AV):List (Nat×AV)->Option (List AV)
 |[]=>some cells
 |(i,x)::rest=>
  match place i with
  |none=>none
  |some (off,size)=>
   match decide ((cellsOf x).length=size)&&decide (off+(cellsOf x).length<=cells.length)&&(cellsOf x).all fq with
   |true=>rI place (setCells cells off (cellsOf x)) rest
   |false=>none
def pG(P:Program)(t:TypeId)(cs:List AV)(off:Nat):Option AV:=
 match DY P t with
 |some true=>(match eG P t with|some n=>some (.agg ((cs.drop off).take n))|none=>none)
 |some false=>cs[off]?
 |none=>none
def DR:Option RC->Option AV
 |some (.av A)=>some A
 |_=>none
def cellAt(H:List Blk):AV->Option AV
 |.hp i off=>match H[i]? with|some (.own cs)=>cs[off]?|some (.fix cs)=>cs[off]?|some (.rows rs)=>DR rs[off]?|_=>none
 |.pp cs off=>cs[off]?
 |_=>none
def mi(H:List Blk):AV->Option (List AV)
 |.hp i off=>match H[i]? with|some (.own cs)=>some (cs.drop off)|some (.fix cs)=>some (cs.drop off)|_=>none
 |.pp cs off=>some (cs.drop off)
 |_=>none
def yI(P:Program)(H:List Blk)(t:TypeId)(a:AV):Option AV:=
 match DY P t with
 |some true=>(match eG P t,mi H a with|some n,some cs=>(match decide (n<=cs.length)with|true=>some (.agg (cs.take n))|false=>none)|_,_=>none)
 |some false=>cellAt H a
 |none=>none
def zx(P:Program)(H:List Blk)(t:TypeId)(a x:AV):Option (List (Nat×Blk)):=
 match a with
 |.hp i off=>match H[i]?,eG P t with
  |some (.own cs),some n=>(match decide ((cellsOf x).length=n)&&decide (off+n<=cs.length)&&(cellsOf x).all fq with|true=>some [(i,.own (setCells cs off (cellsOf x)))]|false=>none)
  |some (.rows rs),some n=>(match cellsOf x with|[y]=>(match decide (n=1)&&decide (off<rs.length)&&fq y with|true=>some [(i,.rows (rs.set off (.av y)))]|false=>none)|_=>none)
  |_,_=>none
 |_=>none
def gC(H:List Blk)(es:Nat):AV->Option (List AV×Nat)
 |.at (.slice none 0 0)=>some ([],0)
 |.sl _ cs len=>(match decide (cs.length=len*es)with|true=>some (cs,len)|false=>none)
 |.hs i off len _=>match H[i]? with
  |some (.own cs)=>(match decide (off+len*es<=cs.length)with|true=>some ((cs.drop off).take (len*es),len)|false=>none)
  |some (.fix cs)=>(match decide (off+len*es<=cs.length)with|true=>some ((cs.drop off).take (len*es),len)|false=>none)
  |_=>none
 |_=>none
def BC:AV->Option Int|.at (.int _ n)=>some n|_=>none
def AN:AV->Option (IntKind×Int)|.at (.int k n)=>some (k,n)|_=>none
def CY(n:Nat):AV->Option AV
 |.hp i off=>some (.hp i (off+n))
 |.pp cs off=>some (.pp cs (off+n))
 |_=>none
def sE(P:Program)(t:TypeId)(x j:AV):Option AV:=
 match P.underlying t,BC j with
 |some (.slice e),some i=>(match eG P e,x with
  |some n,.sl _ cs len=>(match decide (0<=i)&&decide (i<len)with|true=>some (.pp cs (i.toNat*n))|false=>none)
  |some n,.hs b off len _=>(match decide (0<=i)&&decide (i<len)with|true=>some (.hp b (off+i.toNat*n))|false=>none)
  |_,_=>none)
 |some (.array len e),some i=>(match eG P e with
  |some n=>(match decide (0<=i)&&decide (i<len)with|true=>CY (i.toNat*n) x|false=>none)
  |none=>none)
 |_,_=>none
def sy(P:Program)(s:TypeId)(x:AV)(f:Nat):Option AV:=
 match P.underlying s with
 |some (.struct j)=>(match j[f]? with
  |some fd=>(match eG P fd.type with|some 0=>none|some _=>CY fd.offset x|none=>none)
  |none=>none)
 |_=>none
def BD(P:Program)(s:TypeId)(x:AV)(f:Nat):Option AV:=
 match P.underlying s,x with
 |some (.struct j),.agg cs=>(match j[f]? with|some fd=>pG P fd.type cs fd.offset|none=>none)
 |some (.struct j),.at (.agg a)=>(match j[f]? with|some fd=>pG P fd.type (a.toList.map .at) fd.offset|none=>none)
 |_,_=>none
def B5(P:Program)(t:TypeId)(x j:AV):Option AV:=
 match P.underlying t,x,BC j with
 |some (.array len e),.agg cs,some i=>(match eG P e,decide (0<=i)&&decide (i<len)with|some n,true=>pG P e cs (i.toNat*n)|_,_=>none)
 |some (.array len e),.at (.agg a),some i=>(match eG P e,decide (0<=i)&&decide (i<len)with|some n,true=>pG P e (a.toList.map .at) (i.toNat*n)|_,_=>none)
 |some .string,.at s,some _=>(match toV j with|some i=>(gJ P (Instr.index t s i)).map .at|none=>none)
 |_,_,_=>none
def oO(len:Nat)(j hi:Option AV):Option (Nat×Nat):=
 match (match j with|none=>some 0|some a=>BC a),(match hi with|none=>some (len:Int)|some a=>BC a)with
 |some l,some h=>(match decide (0<=l)&&decide (l<=h)&&decide (h<=len)with|true=>some (l.toNat,h.toNat)|false=>none)
 |_,_=>none
def ug(P:Program)(H:List Blk)(t:TypeId)(x:AV)(j hi:Option AV):Option AV:=
 match P.underlying t with
 |some (.slice e)=>(match eG P e,x with
  |some n,.sl nl cs len=>(match oO len j hi with|some (l,h)=>some (.sl nl ((cs.drop (l*n)).take ((h-l)*n)) (h-l))|none=>none)
  |some n,.hs b off len es=>(match oO len j hi,decide (es=n)with|some (l,h),true=>some (.hs b (off+l*n) (h-l) n)|_,_=>none)
  |some _,.at (.slice none 0 0)=>(match oO 0 j hi with|some _=>some (.at (.slice none 0 0))|none=>none)
  |_,_=>none)
 |some (.array len e)=>(match eG P e,x with
  |some n,.hp b off=>(match oO len j hi,H[b]? with
   |some (l,h),some (.own cs)=>(match decide (off+len*n<=cs.length)&&decide (0<n)with|true=>some (.hs b (off+l*n) (h-l) n)|false=>none)
   |_,_=>none)
  |some n,.pp cs off=>(match oO len j hi with|some (l,h)=>some (.sl false ((cs.drop (off+l*n)).take ((h-l)*n)) (h-l))|none=>none)
  |_,_=>none)
 |_=>none
def dm(z:List AV):Nat->List AV
 |0=>[]
 |n+1=>z++dm z n
def zt(P:Program)(t:TypeId)(a:AV)(v:Value):Bool:=
 match P.underlying t,a,v with
 |some (.slice _),.sl nl _ len,.slice none 0 0=>!nl||decide (0<len)
 |some (.slice _),.hs _ _ len _,.slice none 0 0=>decide (0<len)
 |some (.pointer _),.hp _ _,.pointer none=>true
 |some (.pointer _),.pp _ _,.pointer none=>true
 |_,_,_=>false
inductive bj where
 |pure (v:AV)
 |eff (v:AV) (ws:List (Nat×Blk))
 |call (f:FuncId) (args:List AV)
def bj.ofP:Option AV->Option bj|some v=>some (.pure v)|none=>none
def aN(H:List Blk):List (Nat×Blk)->List Blk
 |[]=>H
 |(i,x)::ws=>aN (upd H i x) ws
def iM(H:List Blk)(nid n bytes:Nat)(s x:AV):Option bj:=
 match gC H n x with
 |none=>none
 |some (new,m)=>
  match s with
  |.at (.slice none 0 0)=>(match decide (m*bytes<=140737488355328)&&decide (m<=4611686018427387904)&&decide (0<n)with
   |true=>some (.eff (.hs nid 0 m n) [(nid,.own new)])
   |false=>none)
  |.sl nl cs len=>(match decide (m=0)with|true=>some (.pure (.sl nl cs len))|false=>none)
  |.hs i off len es=>match H[i]? with
   |some (.own cs)=>(match decide (es=n)&&decide (0<n)&&decide (off+len*n<=cs.length)&&decide ((len+m)*bytes<=140737488355328)&&decide (len+m<=4611686018427387904)with
    |true=>some (.eff (.hs nid 0 (len+m) n) [(i,.dead),(nid,.own ((cs.drop off).take (len*n)++new))])
    |false=>none)
   |some (.rows rs)=>(match decide (es=n)&&decide (n=1)&&decide (off=0)&&decide (len<=rs.length)&&decide ((len+m)*bytes<=140737488355328)&&decide (len+m<=4611686018427387904)&&decide (0<m)with
    |true=>some (.eff (.hs nid 0 (len+m) n) [(i,.dead),(nid,.rows (rs.take len++new.map .av))])
    |false=>none)
   |_=>none
  |.hc i off len cap es=>match H[i]? with
   |some (.own cs)=>(match decide (es=n)&&decide (0<n)&&decide (0<m)&&decide (off=0)&&decide (len*n<=cs.length)&&decide ((len+m)*bytes<=140737488355328)&&decide (len+m<=4611686018427387904)with
    |true=>(match decide (len+m<=cap)with
     |true=>some (.eff (.hs i 0 (len+m) n) [(i,.own (cs.take (len*n)++new))])
     |false=>some (.eff (.hs nid 0 (len+m) n) [(nid,.own (cs.take (len*n)++new))]))
    |false=>none)
   |_=>none
  |_=>none
def tY(nid n bytes:Nat)(z:List AV)(s x:AV):Option bj:=
 match s,x with
 |.at (.slice none 0 0),.at (.int .i64 k)=>(match decide (0<k)&&decide (k<=4611686018427387904)&&decide (k.toNat*bytes<=140737488355328)&&decide (0<n)&&decide (z.length=n)&&z.all fq with
  |true=>some (.eff (.hs nid 0 k.toNat n) [(nid,.own (dm z k.toNat))])
  |false=>none)
 |_,_=>none
def wkN(a:AV):AV:=
 match a with
 |.at (.slice none 0 0)=>.sl true [] 0
 |_=>a
def rP(H:List Blk)(n:Nat)(z:List AV)(d:AV):Option bj:=
 match d with
 |.hs i off len es=>(match H[i]? with
  |some (.own cs)=>(match decide (es=n)&&decide (off+len*n<=cs.length)&&decide (z.length=n)&&z.all fq&&decide (0<n)with
   |true=>some (.eff (.at (.tuple #[])) [(i,.own (setCells cs off (dm (z.map wkN) len)))])
   |false=>none)
  |_=>none)
 |_=>none
def KJ(P:Program)(t:TypeId)(x:AV):Option AV:=
 match P.underlying t,x with
 |some (.slice _),.sl _ _ len=>some (.at (.int .i64 len))
 |some (.slice _),.hs _ _ len _=>some (.at (.int .i64 len))
 |some (.slice _),.at (.slice none 0 0)=>some (.at (.int .i64 0))
 |some .string,.at (.string s)=>some (.at (.int .i64 s.size))
 |some (.array n _),_=>some (.at (.int .i64 n))
 |_,_=>none
def wE:IntKind->Int->Bool
 |.i64,n=>decide (-9223372036854775808<=n)&&decide (n<=9223372036854775807)
 |.u64,n=>decide (0<=n)&&decide (n<=18446744073709551615)
 |.u32,n=>decide (0<=n)&&decide (n<=4294967295)
 |.u8,n=>decide (0<=n)&&decide (n<=255)
 |_,_=>false
def aa(k:IntKind)(n:Int):Int:=match wE k n with|true=>n|false=>k.wrap n
abbrev MR(n:Int):Int:=aa IntKind.i64 n
theorem jr(k:IntKind)(n:Int):aa k n=k.wrap n:=by
 (try unfold MR);unfold aa;split
 ·rename_i h;cases k<;>simp only[wE,Bool.and_eq_true,decide_eq_true_eq,Bool.false_eq_true]at h
  ·rw[IntKind.wrap_i64];omega
  ·rw[IntKind.wrap_u8];omega
  ·rw[IntKind.wrap_u32];omega
  ·rw[IntKind.wrap_u64];omega
 ·rfl
def uz(op:BinOp)(k:IntKind)(x y:Int):Option Value:=
 match op with
 |.add=>some (.int k (aa k (x+y)))
 |.sub=>some (.int k (aa k (x-y)))
 |.mul=>some (.int k (aa k (x*y)))
 |.quo=>(match decide (y=0)with|true=>none|false=>some (.int k (aa k (x.tdiv y))))
 |.rem=>(match decide (y=0)with|true=>none|false=>some (.int k (x.tmod y)))
 |.eql=>some (.bool (x==y))
 |.neq=>some (.bool (x !=y))
 |.lss=>some (.bool (decide (x<y)))
 |.leq=>some (.bool (decide (x<=y)))
 |.gtr=>some (.bool (decide (x>y)))
 |.geq=>some (.bool (decide (x>=y)))
 |_=>none
theorem zw{P:Program}{op:BinOp}{t:TypeId}{a b:Operand}{k:IntKind}{x y:Int}{v:Value}(h:uz op k x y=some v)(w:World):
  (do eqGuard op t a b (.int k x) (.int k y);binOp op t (.int k x) (.int k y):Sem Value).run P w=.ok v w:=by
 have m:(eqGuard op t a b (.int k x) (.int k y)).run P w=.ok () w:=by cases op<;>simp[eqGuard]
 simp only[Sem.run_bind,m,Result.andThen_ok];cases op<;>simp only[uz]at h
 case add=>cases h;simp[binOp,Op.intArith,jr]
 case sub=>cases h;simp[binOp,Op.intArith,jr]
 case mul=>cases h;simp[binOp,Op.intArith,jr]
 case quo=>
  split at h
  ·cases h
  ·rename_i j;cases h;have:¬y=0:=by simpa using j
   simp[binOp,Op.intDiv,this,jr]
 case rem=>
  split at h
  ·cases h
  ·rename_i j;cases h;have:¬y=0:=by simpa using j
   simp[binOp,Op.intDiv,this]
 case eql=>cases h;simp[binOp,Op.intCmp]
 case neq=>cases h;simp[binOp,Op.intCmp]
 case lss=>cases h;simp[binOp,Op.intCmp]
 case leq=>cases h;simp[binOp,Op.intCmp]
 case gtr=>cases h;simp[binOp,Op.intCmp]
 case geq=>cases h;simp[binOp,Op.intCmp]
 all_goals cases h
def sR(P:Program)(op:BinOp)(t:TypeId)(x y:Operand)(a b:AV):Option AV:=
 match toV a,toV b with
 |some u,some v=>(match gJ P (do eqGuard op t x y u v;binOp op t u v)with|some r=>some (.at r)|none=>none)
 |none,some v=>(match zt P t a v,op with
  |true,.eql=>some (.at (.bool false))
  |true,.neq=>some (.at (.bool true))
  |_,_=>none)
 |_,_=>none
def IntKind.rk:IntKind->IntKind->Bool
 |.i64,.i64|.u64,.u64|.u32,.u32|.u8,.u8|.i32,.i32|.i16,.i16|.i8,.i8|.u16,.u16=>true
 |_,_=>false
theorem IntKind.ma{k l:IntKind}(h:IntKind.rk k l=true):k=l:=by cases k<;>cases l<;>simp_all [IntKind.rk]
def xZ:AV->Option (List AV)
 |.agg cs=>some cs
 |.at (.agg a)=>some (a.toList.map .at)
 |_=>none
def z8(P:Program)(f:TypeId->AV->AV->Option Bool)(xs ys:List AV):List Field->Option Bool
 |[]=>some true
 |g::j=>match decide (g.name= "_")with
  |true=>z8 P f xs ys j
  |false=>match pG P g.type xs g.offset,pG P g.type ys g.offset with
   |some a,some b=>(match f g.type a b,z8 P f xs ys j with|some r,some s=>some (r&&s)|_,_=>none)
   |_,_=>none
def BH(P:Program)(f:AV->AV->Option Bool)(e:TypeId)(n:Nat)(xs ys:List AV):Nat->Nat->Option Bool
 |0,_=>some true
 |m+1,i=>match pG P e xs (i*n),pG P e ys (i*n)with
  |some a,some b=>(match f a b,BH P f e n xs ys m (i+1)with|some r,some s=>some (r&&s)|_,_=>none)
  |_,_=>none
def uG(P:Program):Nat->TypeId->AV->AV->Option Bool
 |0,_,_,_=>none
 |d+1,t,a,b=>match P.underlying t with
  |some (.int _)=>(match a,b with|.at (.int k x),.at (.int k' y)=>(match IntKind.rk k k' with|true=>some (x==y)|false=>none)|_,_=>none)
  |some .bool=>(match a,b with|.at (.bool x),.at (.bool y)=>some (x==y)|_,_=>none)
  |some (.struct j)=>(match P.stoodInHeld t,xZ a,xZ b with|false,some xs,some ys=>z8 P (uG P d) xs ys j.toList|_,_,_=>none)
  |some (.array n e)=>(match eG P e,xZ a,xZ b with|some k,some xs,some ys=>BH P (uG P d e) e k xs ys n 0|_,_,_=>none)
  |_=>none
def zC(P:Program)(op:BinOp)(t:TypeId)(a b:AV):Option AV:=
 match op,P.eqGuardType P.depth t,xZ a,xZ b with
 |.eql,false,some _,some _=>(match uG P 8 t a b with|some r=>some (.at (.bool r))|none=>none)
 |.neq,false,some _,some _=>(match uG P 8 t a b with|some r=>some (.at (.bool (!r)))|none=>none)
 |_,_,_,_=>none
def ui(P:Program)(op:BinOp)(t:TypeId)(x y:Operand)(a b:AV):Option AV:=
 match a,b with
 |.at (.int k m),.at (.int k' n)=>(match IntKind.rk k k' with
  |true=>(match uz op k m n with|some r=>some (.at r)|none=>sR P op t x y (.at (.int k m)) (.at (.int k' n)))
  |false=>sR P op t x y (.at (.int k m)) (.at (.int k' n)))
 |.agg cs,b=>zC P op t (.agg cs) b
 |.at (.agg v),.agg cs=>zC P op t (.at (.agg v)) (.agg cs)
 |a,b=>sR P op t x y a b
def FK(P:Program)(src dst:TypeId)(a:AV):Option Value:=
 match a with
 |.at (.int _ n)=>(match P.underlying src,P.underlying dst with
  |some _,some (.int k)=>some (.int k (aa k n))
  |_,_=>none)
 |_=>none
def FB(t:Bool):AV->AV->AV
 |.at (.bool x),.at (.bool y)=>.at (.bool (if t then x else y))
 |a,b=>if t then a else b
def EM(f:Value->Option Value)(a:AV):Option bj:=
 match toV a with
 |some v=>(match f v with|some r=>some (.pure (.at r))|none=>none)
 |none=>none
def w9(H:List Blk)(n:Nat)(d x:AV):Option bj:=
 match gC H n x with
 |none=>none
 |some (new,m)=>match d with
  |.hs i off len es=>(match H[i]? with
   |some (.own cs)=>(match decide (es=n)&&decide (off+len*n<=cs.length)with
    |true=>some (.eff (.at (.int .i64 (Nat.min m len:Nat))) [(i,.own (setCells cs off (new.take (Nat.min m len*n))))])
    |false=>none)
   |_=>none)
  |_=>none
def F6(P:Program)(H:List Blk)(t:TypeId)(x:AV):Option AV:=
 match P.underlying t,x with
 |some (.map _ _),.mp i=>(match H[i]? with|some (.map es)=>some (.at (.int .i64 (es.length:Nat)))|_=>none)
 |_,_=>none
def ln(P:Program)(H:List Blk)(nid:Nat)(b:Builtin)(argTypes:Array TypeId)(type:TypeId)(args:List AV):Option bj:=
 match b,args with
 |.len,[x]=>(match argTypes[0]? with|some t=>(match KJ P t x with|some v=>some (.pure v)|none=>bj.ofP (F6 P H t x))|none=>none)
 |.append,[s,x]=>(match argTypes[0]?,argTypes[1]? with
  |some t,some j=>(match P.underlying t,P.underlying j with
   |some (.slice e),some (.slice _)=>(match eG P e,mz P e,jP P e with|some n,some by_,some z=>(match decide (z.length=n)with|true=>iM H nid n by_ s x|false=>none)|_,_,_=>none)
   |some (.slice e),some (.int _)=>(match eG P e,mz P e,jP P e with|some n,some by_,some z=>tY nid n by_ z s x|_,_,_=>none)
   |_,_=>none)
  |_,_=>none)
 |.copy,[d,x]=>(match argTypes[0]? with
  |some t=>(match P.underlying t with
   |some (.slice e)=>(match eG P e with|some n=>w9 H n d x|none=>none)
   |_=>none)
  |none=>none)
 |.clear,[d]=>(match argTypes[0]? with
  |some t=>(match P.underlying t with
   |some (.slice e)=>(match eG P e,jP P e with|some n,some z=>rP H n z d|_,_=>none)
   |_=>none)
  |none=>none)
 |.cap,args=>(match Ad args with|some vs=>(match gJ P (Builtin.cap_ argTypes type vs.toArray)with|some r=>some (.pure (.at r))|none=>none)|none=>none)
 |.min,args=>(match Ad args with|some vs=>(match gJ P (Builtin.min_ argTypes type vs.toArray)with|some r=>some (.pure (.at r))|none=>none)|none=>none)
 |.max,args=>(match Ad args with|some vs=>(match gJ P (Builtin.max_ argTypes type vs.toArray)with|some r=>some (.pure (.at r))|none=>none)|none=>none)
 |_,_=>none
def qQ(P:Program):List Field->Option (List (Nat×Nat))
 |[]=>some []
 |f::j=>match eG P f.type,qQ P j with|some n,some l=>some ((f.offset,n)::l)|_,_=>none
def wv(P:Program)(f:FuncId):Bool:=match P.funcs[f]? with|some fn=>fn.body.isSome|none=>false
def w6(ρ:Operand->AV)(c:Operand)(a:Operand)(b:Operand):Option bj:=
 (match ρ c with|.at (.bool t)=>some (.pure (FB t (ρ a) (ρ b)))|_=>none)
def rh(P:Program)(nid:Nat)(t:TypeId):Option bj:=
 (match jP P t with
  |some z=>(match z.all fq with|true=>some (.eff (.hp nid 0) [(nid,.own z)])|false=>none)
  |none=>none)
def yA(ρ:Operand->AV)(nid:Nat)(x:Operand):Option bj:=
 (match (cellsOf (ρ x)).all fq with|true=>some (.eff (.hp nid 0) [(nid,.own (cellsOf (ρ x)))])|false=>none)
def th(P:Program)(ρ:Operand->AV)(t:TypeId)(parts:Array (Nat×Operand)):Option bj:=
 (match jP P t,P.underlying t with
  |some z,some (.struct j)=>(match qQ P j.toList with
   |some pl=>(match z.all fq with|true=>(match rI (fun i=>pl[i]?) z (parts.toList.map fun p=>(p.1,ρ p.2))with|some cs=>some (.pure (.agg cs))|none=>none)|false=>none)
   |none=>none)
  |some z,some (.array _ e)=>(match eG P e with
   |some n=>(match z.all fq with|true=>(match rI (fun i=>some (i*n,n)) z (parts.toList.map fun p=>(p.1,ρ p.2))with|some cs=>some (.pure (.agg cs))|none=>none)|false=>none)
   |none=>none)
  |_,_=>none)
def je(P:Program)(ρ:Operand->AV)(nid:Nat)(t:TypeId)(len:Nat)(parts:Array (Nat×Operand)):Option bj:=
 (match P.underlying t with
  |some (.slice e)=>(match eG P e,jP P e with
   |some n,some z=>(match decide (len*n<=16777216)&&decide (z.length=n)&&z.all fq with
    |true=>(match rI (fun i=>some (i*n,n)) (dm z len) (parts.toList.map fun p=>(p.1,ρ p.2))with
     |some cs=>some (.eff (.hs nid 0 len n) [(nid,.own cs)])|none=>none)
    |false=>none)
   |_,_=>none)
  |_=>none)
def tE(P:Program)(ρ:Operand->AV)(H:List Blk)(t:TypeId)(a:Operand)(x:Operand):Option bj:=
 (match zx P H t (ρ a) (ρ x)with|some ws=>some (.eff .unk ws)|none=>none)
def mF(ρ:Operand->AV)(x:Operand):Option bj:=
 (match ρ x with|.hp b off=>some (.pure (.hp b off))|.pp cs off=>some (.pure (.pp cs off))|.fn f a c=>some (.pure (.fn f a c))|_=>none)
def od(P:Program)(ρ:Operand->AV)(src:TypeId)(dst:TypeId)(x:Operand):Option bj:=
 (match FK P src dst (ρ x)with|some v=>some (.pure (.at v))|none=>EM (fun v=>gJ P (convert src dst v)) (ρ x))
def jL(P:Program)(ρ:Operand->AV)(nid:Nat)(t:TypeId)(l:Operand)(c:Operand):Option bj:=
 (match P.underlying t,AN (ρ l),AN (ρ c)with
  |some (.slice e),some (_,l),some (_,c)=>(match eG P e,mz P e,jP P e with
   |some n,some by_,some z=>(match decide (0<=l)&&decide (l<=c)&&decide ((by_:Int)*c<=281474976710656)&&decide (c<=9223372036854775807)&&decide (z.length=n)&&decide (0<n)&&z.all fq with
    |true=>some (.eff (.hs nid 0 l.toNat n) [(nid,.own (dm z c.toNat))])
    |false=>none)
   |_,_,_=>none)
  |_,_,_=>none)
def tH(P:Program)(ρ:Operand->AV)(H:List Blk)(t:TypeId)(x:Operand)(j:Option Operand)(hi:Option Operand):Option bj:=
 (match ρ x with
  |.at (.string s)=>(match (match j with|none=>some none|some a=>(toV (ρ a)).map some),(match hi with|none=>some none|some a=>(toV (ρ a)).map some)with
   |some l,some h=>(match gJ P (Instr.sliceAt t (.string s) l h none)with|some r=>some (.pure (.at r))|none=>none)
   |_,_=>none)
  |y=>bj.ofP (ug P H t y (j.map ρ) (hi.map ρ)))
def uA(P:Program)(ρ:Operand->AV)(H:List Blk)(nid:Nat)(c:Call)(j:TypeId):Option bj:=
 (match c.callee with
  |.value f=>(match ρ f with
   |.fn g m cs=>(match wv P g with|true=>some (.call g (m++c.args.toList.map ρ++cs))|false=>none)
   |_=>none)
  |.builtin b=>ln P H nid b c.argTypes j (c.args.toList.map ρ)
  |_=>none)
def pf:List Value->List Value->Option Bool
 |[],[]=>some true
 |.int k x::l,.int k' y::j=>(match IntKind.rk k k',pf l j with|true,some r=>some (x==y&&r)|_,_=>none)
 |_,_=>none
def kEq:Value->Value->Option Bool
 |.agg a,.agg b=>pf a.toList b.toList
 |.int k x,.int k' y=>(match IntKind.rk k k' with|true=>some (x==y)|false=>none)
 |.bool x,.bool y=>some (x==y)
 |_,_=>none
def nt(P:Program)(e:TypeId):Bool:=match P.underlying e,eG P e with|some (.int _),some n=>Nat.beq n 1|_,_=>false
def uN(P:Program):List Field->Nat->Bool
 |[],_=>true
 |f::j,i=>!decide (f.name= "_")&&Nat.beq f.offset i&&nt P f.type&&uN P j (i+1)
def sQ:List Value->Bool|[]=>true|.int ..::l=>sQ l|_=>false
def mc(P:Program)(t:TypeId)(a:Array Value):Bool:=match P.underlying t with
 |some (.array n e)=>nt P e&&Nat.beq a.size n&&sQ a.toList
 |some (.struct j)=>uN P j.toList 0&&Nat.beq a.size j.toList.length&&sQ a.toList&&!P.stoodInHeld t
 |_=>false
def fZ(P:Program)(t:TypeId)(v:Value):Bool:=match P.underlying t,v with|some (.int k),.int k' _=>IntKind.rk k k'|some .bool,.bool _=>true|some _,.agg a=>mc P t a|_,_=>false
def ka(k:Value):List (Value×AV)->Nat->Option (Option (Nat×AV))
 |[],_=>some none
 |(k',A)::es,i=>(match kEq k k' with|some true=>some (some (i,A))|some false=>ka k es (i+1)|none=>none)
def xl(P:Program)(e:TypeId):Option AV:=match P.info? e with|some i=>(match i.zero with|some (.agg a)=>some (.agg (a.toList.map .at))|some v=>some (.at v)|none=>none)|none=>none
def jl(H:List Blk)(x:AV):Option (Nat×List (Value×AV)):=match x with|.mp b=>(match H[b]? with|some (.map es)=>some (b,es)|_=>none)|_=>none
def cI(P:Program)(H:List Blk)(t:TypeId)(x j:AV)(ok:Bool):Option AV:=
 match P.underlying t,jl H x,toV j with
 |some (.map kt e),some (_,es),some k=>(match fZ P kt k,xl P e,ka k es 0 with
  |true,some _,some (some (_,A))=>some (match ok with|true=>.tup [A,.at (.bool true)]|false=>A)
  |true,some z,some none=>some (match ok with|true=>.tup [z,.at (.bool false)]|false=>z)
  |_,_,_=>none)
 |_,_,_=>none
def cn(P:Program)(H:List Blk)(t:TypeId)(m k v:AV):Option bj:=
 match P.underlying t,jl H m,toV k with
 |some (.map kt _),some (b,es),some k=>(match fZ P kt k,ka k es 0 with
  |true,some (some (i,_))=>some (.eff .unk [(b,.map (es.set i (k,v)))])
  |true,some none=>some (.eff .unk [(b,.map (es++[(k,v)]))])
  |_,_=>none)
 |_,_,_=>none
def kO(P:Program)(H:List Blk)(t:TypeId)(m k:AV):Option bj:=
 match P.underlying t,jl H m,toV k with
 |some (.map kt e),some (b,es),some k=>(match fZ P kt k,xl P e,ka k es 0 with
  |true,some _,some (some (i,A))=>some (.eff (.tup [A,.at (.int .i64 i)]) [(b,.map (es.set i (k,A)))])
  |true,some z,some none=>some (.eff (.tup [z,.at (.int .i64 es.length)]) [(b,.map (es++[(k,z)]))])
  |_,_,_=>none)
 |_,_,_=>none
def jU(H:List Blk)(m s v:AV):Option bj:=
 match jl H m,BC s with
 |some (b,es),some i=>(match decide (0<=i),es[i.toNat]? with|true,some (k,_)=>some (.eff .unk [(b,.map (es.set i.toNat (k,v)))])|_,_=>none)
 |_,_=>none
def oF(P:Program)(nid:Nat)(t:TypeId)(r:Option AV):Option bj:=
 match r with
 |none=>some (.eff (.mp nid) [(nid,.map [])])
 |some r=>(match AN r,P.underlying t with|some _,some (.map _ _)=>some (.eff (.mp nid) [(nid,.map [])])|_,_=>none)
def qe(H:List Blk)(x:AV):Option (Nat×Nat×List Nat):=match x with|.hp j 0=>(match H[j]? with|some (.iter m n seen)=>some (m,n,seen)|_=>none)|_=>none
def IH:Value->AV|.agg a=>.agg (a.toList.map .at)|v=>.at v
def kH(P:Program)(H:List Blk)(nid:Nat)(t:TypeId)(x:AV):Option bj:=
 match P.underlying t,jl H x with
 |some (.map _ _),some (b,es)=>some (.eff (.hp nid 0) [(nid,.iter b es.length [])])
 |_,_=>none
def gr(H:List Blk)(x:AV):Option bj:=
 match qe H x with
 |some (m,n,seen)=>(match H[m]? with
  |some (.map es)=>(match decide (es.length=n),seen.getLast? with
   |true,some i=>(match es[i]? with|some (k,A)=>some (.pure (.tup [IH k,A]))|none=>none)
   |_,_=>none)
  |_=>none)
 |none=>none
def lq(P:Program)(ρ:Operand->AV)(H:List Blk)(nid:Nat)(op:Op):Option bj:=
 match op with
 |.makeMap t r=>oF P nid t (r.map ρ)
 |.lookup t x j ok=>bj.ofP (cI P H t (ρ x) (ρ j) ok)
 |.mapUpdate t m k x=>cn P H t (ρ m) (ρ k) (ρ x)
 |.insert t m k x=>cn P H t (ρ m) (ρ k) (ρ x)
 |.mapEntry t m k=>kO P H t (ρ m) (ρ k)
 |.entryStore _ m s x=>jU H (ρ m) (ρ s) (ρ x)
 |.range t x=>kH P H nid t (ρ x)
 |.entry it=>gr H (ρ it)
 |_=>none
def evalOp(P:Program)(ρ:Operand->AV)(H:List Blk)(nid:Nat)(o:Oper):Option bj:=
 match o.op with
 |.move x=>some (.pure (ρ x))
 |.assign x=>some (.pure (ρ x))
 |.pick c a b=>w6 ρ c a b
 |.alloc t=>rh P nid t
 |.box _ x=>yA ρ nid x
 |.build t parts=>th P ρ t parts
 |.buildSlice t len parts=>je P ρ nid t len parts
 |.load t a=>bj.ofP (yI P H t (ρ a))
 |.store t a x=>tE P ρ H t a x
 |.nilCheck x=>mF ρ x
 |.binOp op t x y _=>bj.ofP (ui P op t x y (ρ x) (ρ y))
 |.unOp op _ x=>EM (fun v=>gJ P (Op.unary op v)) (ρ x)
 |.convert src dst x=>od P ρ src dst x
 |.makeFunc (.func f) m cs=>some (.pure (.fn f (m.toList.map ρ) (cs.toList.map ρ)))
 |.makeSlice t l c=>jL P ρ nid t l c
 |.slice t x p hi none=>tH P ρ H t x p hi
 |.fieldAddr s x f=>bj.ofP (sy P s (ρ x) f)
 |.field s x f=>bj.ofP (BD P s (ρ x) f)
 |.indexAddr t x j=>bj.ofP (sE P t (ρ x) (ρ j))
 |.index t x j=>bj.ofP (B5 P t (ρ x) (ρ j))
 |.extract t j=>(match ρ t with|.tup vs=>bj.ofP vs[j]?|_=>none)
 |.call c=>uA P ρ H nid c o.type
 |op=>lq P ρ H nid op
def dc:AV->List Nat
 |.hp i _=>[i]
 |.hs i _ _ _=>[i]
 |.hc i _ _ _ _=>[i]
 |.mp i=>[i]
 |_=>[]
def oJ(H:List Blk)(ρ:Operand->AV)(o:Oper):List Nat:=
 match o.op with
 |.load _ a=>dc (ρ a)
 |.store _ a _=>dc (ρ a)
 |.slice _ x _ _ _=>dc (ρ x)
 |.lookup _ x _ _=>dc (ρ x)
 |.mapUpdate _ m _ _=>dc (ρ m)
 |.insert _ m _ _=>dc (ρ m)
 |.mapEntry _ m _=>dc (ρ m)
 |.entryStore _ m _ _=>dc (ρ m)
 |.range _ x=>dc (ρ x)
 |.entry it=>dc (ρ it)++(match qe H (ρ it)with|some (m,_,_)=>[m]|none=>[])
 |.call c=>c.args.toList.flatMap fun x=>dc (ρ x)
 |_=>[]
end Go.Eng


namespace Go.Eng
open Go Go.RowKit
variable[Dr]
theorem bt{P:Program}{t:TypeId}{n:Nat}(h:eG P t=some n)(w:World):(sizeOf t).run P w=.ok n w:=by
 unfold eG at h;split at h
 ·rename_i i hi;cases h;simp[sizeOf,typeInfo,hi]
 ·cases h
theorem vU{P:Program}{t:TypeId}{b:Bool}(h:DY P t=some b)(w:World):(isAgg t).run P w=.ok b w:=by
 unfold DY at h;cases j:P.underlying t with
 |none=>simp[j]at h
 |some d=>cases d<;>simp[j]at h<;>subst h<;>simp[isAgg,run_underlying j]
theorem nE{P:Program}{t:TypeId}{z:List AV}(h:jP P t=some z)(w:World):∃j i,P.info? t=some i/\i.zero=some j/\(zeroValue t).run P w=.ok j w/\z=j.cells.toList.map .at:=by
 unfold jP at h;split at h
 ·rename_i i hi;split at h
  ·rename_i j m;cases h;exact⟨j,i,hi,m,by simp[zeroValue,typeInfo,hi,m],rfl⟩
  ·cases h
 ·cases h
theorem dW(b o n:Nat):(⟨b,o,none⟩:Addr).add n=⟨b,o+n,none⟩:=by unfold Addr.add;split<;>simp_all
section
variable{P:Program}{out:Nat->Prop}{B:Nat->Prop}{w:World}{π:List (Option PB)}{H:List Blk}
theorem eU(j:Inv out B w π H){i:Nat}{p:PB}{cs:List AV}(hH:H[i]?=some (.own cs)\/H[i]?=some (.fix cs))(hp:π[i]?=some (some p)):RvC w (aI out π H) π cs p.blk p.off:=by
 rcases hH with h|h
 ·exact(j.ok i _ p h hp).2
 ·exact j.ok i _ p h hp
theorem pC(j:Inv out B w π H){a:AV}{v:Value}{cs:List AV}(m:Rv w (aI out π H) π a v)(h:mi H a=some cs):
  ∃b o,v=.pointer (some ⟨b,o,none⟩)/\RvC w (aI out π H) π cs b o:=by
 unfold mi at h;split at h
 ·rename_i i off;obtain⟨p,hp,rfl⟩:=m;split at h
  ·rename_i c hc;cases h;exact⟨_,_,rfl,RvC.drop off c _ _ (eU j (.inl hc) hp)⟩
  ·rename_i c hc;cases h;exact⟨_,_,rfl,RvC.drop off c _ _ (eU j (.inr hc) hp)⟩
  ·cases h
 ·rename_i c off;cases h;obtain⟨b,o,rfl,_,q⟩:=m;exact⟨_,_,rfl,RvC.drop off c _ _ q.lift⟩
 ·cases h
theorem s9(j:Inv out B w π H){a:AV}{v:Value}{A:AV}(m:Rv w (aI out π H) π a v)(h:cellAt H a=some A):
  ∃q u,v=.pointer (some q)/\w.cell? q=some u/\Rv w (aI out π H) π A u:=by
 unfold cellAt at h;split at h
 ·rename_i i off;obtain⟨p,hp,rfl⟩:=m;split at h
  ·rename_i c hc;obtain⟨u,h1,_,h2⟩:=RvC.get c _ _ off A (eU j (.inl hc) hp) h;exact⟨_,u,rfl,h1,h2⟩
  ·rename_i c hc;obtain⟨u,h1,_,h2⟩:=RvC.get c _ _ off A (eU j (.inr hc) hp) h;exact⟨_,u,rfl,h1,h2⟩
  ·rename_i rs hc;unfold DR at h;split at h
   ·rename_i D z;cases h;obtain⟨u,h1,_,h2⟩:=RvW.av rs _ _ _ off _ (j.ok i _ p hc hp).2.1 z;exact⟨_,u,rfl,h1,h2⟩
   ·cases h
  ·cases h
 ·rename_i c off;obtain⟨b,o,rfl,_,C⟩:=m;obtain⟨u,h1,_,h2⟩:=RvC.get c _ _ off A C.lift h;exact⟨_,u,rfl,h1,h2⟩
 ·cases h
theorem ow{mu:Nat->Prop}{cs:List AV}{b o n:Nat}(h:RvC w mu π cs b o)(z:n<=cs.length):
  ∃vs:List Value,vs.length=n/\RvL w mu π (cs.take n) vs/\(∀v∈vs,v.oneCell'=true)/\(∀j v,vs[j]?=some v->w.cell? ((⟨b,o,none⟩:Addr).add j)=some v):=by
 obtain⟨vs,h1,h2,m,p⟩:=RvC.list (cs.take n) b o (RvC.take n cs b o h);refine⟨vs,by simp[h1];omega,h2,m,fun j v q=>?_⟩;rw[dW];exact p j v q
theorem va(p:Inv out B w π H){t:TypeId}{a:AV}{v:Value}{A:AV}(q:Rv w (aI out π H) π a v)(h:yI P H t a=some A):
  ∃u,(Instr.loadAt t v).run P w=.ok u w/\Rv w (aI out π H) π A u:=by
 unfold yI at h;split at h
 ·rename_i j;split at h
  ·rename_i n cs C m;split at h
   ·rename_i hle;cases h;obtain⟨b,o,rfl,hc⟩:=pC p q m;obtain⟨vs,h1,h2,_,D⟩:=ow hc (by simpa using hle);refine⟨.agg vs.toArray,?_,⟨vs.toArray,rfl,h2⟩⟩;have z:=run_loadCells_list (P:=P) w ⟨b,o,none⟩ vs D;rw[h1]at z;simp[Instr.loadAt,Instr.sureAddr,loadVar,vU j,bt C,z]
   ·cases h
  ·cases h
 ·rename_i j;obtain⟨E,u,rfl,h1,h2⟩:=s9 p q h;exact⟨u,by simp[Instr.loadAt,Instr.sureAddr,loadVar,vU j,h1],h2⟩
 ·cases h
theorem mW{i:Nat}{p:PB}(hp:π[i]?=some (some p)):∀(xs:List AV) (vs:List Value) (k off:Nat) (cs:List AV) (w:World) (H:List Blk),Inv out B w π H->H[i]?=some (.own cs)->
  RvL w (aI out π H) π xs vs->(∀v∈vs,v.oneCell'=true)->off+k+xs.length<=cs.length->
  ∃w',(storeCells ⟨p.blk,p.off+off,none⟩ vs k).run P w=.ok () w'/\Ext B w w' (aI out π H) (aI out π (H.set i (.own (setCells cs (off+k) xs)))) π π/\Inv out B w' π (H.set i (.own (setCells cs (off+k) xs)))
 |[],vs,k,off,cs,w,H,M,hH,N,_,_=>by
  cases N;have he:H.set i (.own (setCells cs (off+k) []))=H:=by
   apply List.ext_getElem?;intro j;rw[List.getElem?_set];split
   ·rename_i O;subst O;rw[if_pos (aK hH)];exact hH.symm
   ·rfl
  rw[he];exact⟨w,rfl,Ext.refl _ _ _,M⟩
 |x::xs,vs,k,off,cs,w,H,M,hH,N,h1,hl=>by
  obtain⟨v,C,rfl,hx,T⟩:=N;have hlen:off+k<cs.length:=by simp at hl;omega
  obtain⟨⟨c,e,m,U⟩,Y⟩:=M.ok i _ p hH hp;have hb:=RvC.bound Y m (by intro e0;subst e0;simp at hlen);obtain⟨u,hu,_,_⟩:=RvC.get cs _ _ (off+k) cs[off+k] Y (List.getElem?_eq_getElem hlen);have D:w.frozen? ⟨p.blk,p.off+(off+k),none⟩=false:=by simp[World.frozen?,m]
  have a1:(store ((⟨p.blk,p.off+off,none⟩:Addr).add k) v).run P w=.ok () (w.setCell ⟨p.blk,p.off+(off+k),none⟩ v):=by
   rw[dW,show p.off+off+k=p.off+(off+k)by omega,run_store P w _ v _ (h1 v (by simp)),hu];simp[D]
  have q:=Inv.pv M hH hp rfl (.own (cs.set (off+k) x)) (w':=w.setCell ⟨p.blk,p.off+(off+k),none⟩ v) (by simp) (fun b hb=>Below.heap_setCell w _ v b hb) rfl rfl rfl (fun _=>Nat.le_refl _) (fun E=>by
   refine⟨?_,?_⟩
   ·refine⟨c.setIfInBounds (p.off+(off+k)) v,e,?_,by simpa using U⟩;simp[World.setCell,Array.getElem?_modify,m]
   ·obtain⟨us,g1,g2,g3,g4⟩:=RvC.list cs _ _ Y;refine gV (cs.set (off+k) x) (us.set (off+k) v) _ _ (RvL.set cs us _ x v (RvL.ext E cs us g2) (Rv.ext E x v hx)) ?_ ?_
    ·intro y I;rcases List.mem_or_eq_of_mem_set I with I|rfl
     ·exact g3 y I
     ·exact h1 _ (by simp)
    ·intro j y z;rw[List.getElem?_set]at z;split at z
     ·rename_i J;subst J;split at z
      ·cases z;exact World.cell?_setCell_same w _ _ hu
      ·cases z
     ·rename_i J;rw[World.cell?_setCell_other w _ _ _ (by intro e0;injection e0 with e1 e2;omega)];exact g4 j y z)
  obtain⟨E,a6⟩:=q;obtain⟨w',r1,r2,r3⟩:=mW hp xs C (k+1) off (cs.set (off+k) x) (w.setCell ⟨p.blk,p.off+(off+k),none⟩ v) (H.set i (.own (cs.set (off+k) x))) a6 (by
    rw[List.getElem?_set,if_pos rfl,if_pos (aK hH)]) (RvL.ext E xs C T) (fun y I=>h1 y (by simp[I])) (by simp at hl ⊢;omega)
  refine⟨w',by simp only[storeCells,Sem.run_bind,a1,Result.andThen_ok,r1],?_,?_⟩
  ·rw[List.set_set]at r2;exact E.trans (by simpa [setCells,Nat.add_assoc]using r2)
  ·rw[List.set_set]at r3;simpa [setCells,Nat.add_assoc]using r3
theorem Er{i:Nat}{p:PB}(U:Inv out B w π H){rs:List RC}(hH:H[i]?=some (.rows rs))(hp:π[i]?=some (some p)){y:AV}{v:Value}{off:Nat}(C:off<rs.length)(hv:Rv w (aI out π H) π y v)(h1:v.oneCell'=true):
  ∃w',(storeCells ⟨p.blk,p.off+off,none⟩ [v] 0).run P w=.ok () w'/\Ext B w w' (aI out π H) (aI out π (H.set i (.rows (rs.set off (.av y))))) π π/\Inv out B w' π (H.set i (.rows (rs.set off (.av y)))):=by
 obtain⟨⟨c,e,j,J⟩,M,D,N⟩:=U.ok i _ p hH hp;have Y:=RvW.bound M j C;obtain⟨u,hu,_⟩:=RvW.at M (List.getElem?_eq_getElem C);have E:w.frozen? ⟨p.blk,p.off+off,none⟩=false:=by simp[World.frozen?,j]
 have O:(store ((⟨p.blk,p.off+off,none⟩:Addr).add 0) v).run P w=.ok () (w.setCell ⟨p.blk,p.off+off,none⟩ v):=by
  rw[dW,Nat.add_zero,run_store P w _ v _ h1,hu];simp[E]
 have row:∀{k len es:Nat} {cs:List AV},(rs.set off (.av y))[k]?=some (.row len es cs)->k≠off/\rs[k]?=some (.row len es cs):=by
  intro k len es cs h;rcases cu h with⟨_,e⟩|⟨hk,h⟩
  ·cases e
  ·exact⟨fun e=>hk e.symm,h⟩
 have m:=Inv.pv U hH hp rfl (.rows (rs.set off (.av y))) (w':=w.setCell ⟨p.blk,p.off+off,none⟩ v) (by simp) (fun b Y=>Below.heap_setCell w _ v b Y) rfl rfl rfl (fun _=>Nat.le_refl _) (fun hE=>by
  refine⟨⟨c.setIfInBounds (p.off+off) v,e,by simp[World.setCell,Array.getElem?_modify,j],by simpa using J⟩,RvW.of _ _ _ _ fun k x hk=>?_,fun k len es cs q g1 g2=>D k len es cs q (row g1).2 g2,
   fun k k' len es I es' cs cs' q q' T g1 g2 g3 g4=>N k k' len es I es' cs cs' q q' T (row g1).2 (row g2).2 g3 g4⟩
  rcases cu hk with⟨rfl,rfl⟩|⟨a1,hk⟩
  ·exact⟨v,World.cell?_setCell_same w _ _ hu,h1,Rv.ext hE y v hv⟩
  ·obtain⟨z,z1,z2⟩:=RvW.at M hk;refine⟨z,by rw[World.cell?_setCell_other w _ _ _ (by intro e0;injection e0 with e1 e2;omega)];exact z1,z2.ext hE fun len es cs q e1 e2=>?_⟩;subst e1;exact Below.heap_setCell w _ v _ (D k len es cs q hk e2)) (by
  rintro b (h|⟨k,len,es,cs,q,g1,g2,g3⟩)
  ·exact .inl h
  ·exact .inr ⟨k,len,es,cs,q,(row g1).2,g2,g3⟩)
 exact⟨_,by simp only[storeCells,Sem.run_bind,O,Result.andThen_ok];rfl,m.1,m.2⟩
theorem y0(D:Inv out B w π H){t:TypeId}{a x:AV}{E q:Value}{ws:List (Nat×Blk)}(M:Rv w (aI out π H) π a E)(I:Rv w (aI out π H) π x q)(h:zx P H t a x=some ws):
  ∃w',(Instr.storeAt t E q).run P w=.ok () w'/\Ext B w w' (aI out π H) (aI out π (aN H ws)) π π/\Inv out B w' π (aN H ws):=by
 unfold zx at h;split at h
 ·rename_i i off;obtain⟨p,hp,rfl⟩:=M;split at h
  ·rename_i cs n hH z;split at h
   ·rename_i hc;cases h;simp only[Bool.and_eq_true,decide_eq_true_eq]at hc;obtain⟨h1,h2⟩:=kG I hc.2;have N:=RvL.length _ _ h1;obtain⟨w',r1,r2,r3⟩:=mW (P:=P) hp (cellsOf x) q.cells.toList 0 off cs w H D hH h1 h2 (by omega);have hu:aN H [(i,.own (setCells cs off (cellsOf x)))]=H.set i (.own (setCells cs off (cellsOf x))):=by simp[aN,upd,aK hH]
    rw[Nat.add_zero]at r2 r3;refine⟨w',?_,by rw[hu];exact r2,by rw[hu];exact r3⟩;have j:q.cells.size=n:=by rw[<-Array.length_toList,N,hc.1.1]
    simp[Instr.storeAt,Instr.sureAddr,storeVar,bt z,j,r1]
   ·cases h
  ·rename_i rs n hH z;split at h
   ·rename_i y J;split at h
    ·rename_i hc;cases h;simp only[Bool.and_eq_true,decide_eq_true_eq]at hc;obtain⟨⟨rfl,C⟩,m⟩:=hc;obtain⟨h1,h2⟩:=kG I (by rw[J];simp[m]);rw[J]at h1;obtain⟨v,l,e1,O,T⟩:=h1;cases T;obtain⟨w',r1,r2,r3⟩:=Er (P:=P) D hH hp C O (h2 v (by rw[e1];simp));have hu:aN H [(i,.rows (rs.set off (.av y)))]=H.set i (.rows (rs.set off (.av y))):=by simp[aN,upd,aK hH]
     refine⟨w',?_,by rw[hu];exact r2,by rw[hu];exact r3⟩;have j:q.cells.size=1:=by rw[<-Array.length_toList,e1];rfl
     simp[Instr.storeAt,Instr.sureAddr,storeVar,bt z,j,e1,r1]
    ·cases h
   ·cases h
  ·cases h
 ·cases h
end
def Bj:List Value->Nat->List Value->List Value
 |l,_,[]=>l
 |l,off,x::xs=>Bj (l.set off x) (off+1) xs
theorem tM{mu:Nat->Prop}{π:List (Option PB)}{w:World}:∀(xs:List AV) (vs:List Value) (cs:List AV) (us:List Value) (off:Nat),RvL w mu π xs vs->RvL w mu π cs us->RvL w mu π (setCells cs off xs) (Bj us off vs)
 |[],vs,cs,us,off,h,k=>by cases h;exact k
 |x::xs,vs,cs,us,off,h,k=>by
  obtain⟨v,j,rfl,h1,h2⟩:=h;exact tM xs j _ _ _ h2 (RvL.set cs us off x v k h1)
theorem vz:∀(vs us:List Value) (off:Nat),(Bj us off vs).length=us.length
 |[],_,_=>rfl
 |v::vs,us,off=>by simp[Bj,vz vs]
theorem A8{x:Value}:∀(vs us:List Value) (off:Nat),x∈Bj us off vs->x∈us\/x∈vs
 |[],_,_,h=>.inl h
 |v::vs,us,off,h=>by
  rcases A8 vs _ _ h with h|h
  ·rcases List.mem_or_eq_of_mem_set h with h|rfl
   ·exact .inl h
   ·exact .inr (by simp)
  ·exact .inr (by simp[h])
theorem wD(off:Nat):∀(l:List Value) (k:Nat) (cells:Array Value),
  ((l.zipIdx k).foldl (fun(cs:Array Value) (p:Value×Nat)=>cs.setIfInBounds (off+p.2) p.1) cells).toList=Bj cells.toList (off+k) l
 |[],_,_=>rfl
 |v::l,k,cells=>by
  simp only[List.zipIdx_cons,List.foldl_cons,Bj];rw[wD off l (k+1)];simp[Nat.add_assoc]
theorem uF(off:Nat)(v:Value)(cells:Array Value):
  (v.cells.zipIdx.foldl (fun(cs:Array Value) (p:Value×Nat)=>cs.setIfInBounds (off+p.2) p.1) cells).toList=Bj cells.toList off v.cells.toList:=by
 rw[<-Array.foldl_toList,Array.toList_zipIdx];exact wD off v.cells.toList 0 cells
theorem nm{mu:Nat->Prop}{π:List (Option PB)}{w:World}{place:Nat->Option (Nat×Nat)}:∀(ps:List (Nat×AV)) (m:List (Nat×Value)) (cs:List AV) (z:Array Value) (r:List AV),
  ps.map (·.1)=m.map (·.1)->RvL w mu π (ps.map (·.2)) (m.map (·.2))->RvL w mu π cs z.toList->(∀v∈z.toList,v.oneCell'=true)->rI place cs ps=some r->
  ∃D,Instr.fill place z m=some D/\RvL w mu π r D.toList/\D.size=z.size/\(∀v∈D.toList,v.oneCell'=true)
 |[],m,cs,z,r,h1,_,I,J,C=>by
  cases m with
  |nil=>simp[rI]at C;subst C;exact⟨z,rfl,I,rfl,J⟩
  |cons q m=>simp at h1
 |(i,x)::ps,m,cs,z,r,h1,h2,I,J,C=>by
  cases m with
  |nil=>simp at h1
  |cons q m=>
   obtain⟨j,v⟩:=q;simp only[List.map_cons,List.cons.injEq]at h1;obtain⟨rfl,h1⟩:=h1;obtain⟨v',T,e,U,M⟩:=h2;simp only[List.map_cons,List.cons.injEq]at e;obtain⟨rfl,rfl⟩:=e;unfold rI at C;unfold Instr.fill;split at C
   ·cases C
   ·rename_i off size N;split at C
    ·rename_i hc;simp only[Bool.and_eq_true,decide_eq_true_eq]at hc;obtain⟨g1,g2⟩:=kG U hc.2;have Y:=RvL.length _ _ g1;have O:=RvL.length _ _ I;simp only[Array.length_toList]at Y O;have e1:v.cells.size=size:=by omega
     have e2:¬z.size<off+v.cells.size:=by omega
     obtain⟨D,r1,r2,r3,r4⟩:=nm ps m (setCells cs off (cellsOf x)) (v.cells.zipIdx.foldl (fun(cs:Array Value) (p:Value×Nat)=>cs.setIfInBounds (off+p.2) p.1) z) r h1 M (by
       rw[uF];exact tM _ _ _ _ _ g1 I) (by
       rw[uF];intro y E;rcases A8 _ _ _ E with E|E
       ·exact J y E
       ·exact g2 y E) C
     refine⟨D,?_,r2,?_,r4⟩
     ·simp only[N];rw[if_neg (by simp[e1];omega)];exact r1
     ·rw[r3,<-Array.length_toList,uF,vz,Array.length_toList]
    ·cases C
theorem rA{P:Program}(w:World):∀(j:List Field) (pl:List (Nat×Nat)),qQ P j=some pl->(j.mapM (m:=Sem) fun f=>do pure (f.offset,<-sizeOf f.type)).run P w=.ok pl w
 |[],pl,h=>by simp[qQ]at h;subst h;simp
 |f::j,pl,h=>by
  unfold qQ at h;split at h
  ·rename_i n l p q;cases h;have z:=rA w j l q;simp only[List.mapM_cons,Sem.run_bind,bt p,Result.andThen_ok,Sem.run_pure,z]
  ·cases h
theorem ri{mu:Nat->Prop}{π:List (Option PB)}{w:World}(z:List Value):∀n:Nat,RvL w mu π (dm (z.map .at) n) ((List.replicate n z).flatten)
 |0=>rfl
 |n+1=>by
  simp only[dm,List.replicate_succ,List.flatten_cons];exact RvL.append _ _ _ _ (ff z) (ri z n)
theorem Jj{mu:Nat->Prop}{π:List (Option PB)}{w:World}{a:AV}{v:Value}(h:Rv w mu π a v):Rv w mu π (wkN a) v:=by
 unfold wkN;split
 ·exact .inl ⟨rfl,rfl,rfl,h⟩
 ·exact h
theorem C7{mu:Nat->Prop}{π:List (Option PB)}{w:World}:∀(as:List AV) (vs:List Value),RvL w mu π as vs->RvL w mu π (as.map wkN) vs
 |[],_,h=>h
 |a::as,_,⟨v,j,h1,h2,m⟩=>⟨v,j,h1,Jj h2,C7 as j m⟩
theorem xc{mu:Nat->Prop}{π:List (Option PB)}{w:World}(z:List Value):∀n:Nat,RvL w mu π (dm ((z.map .at).map wkN) n) ((List.replicate n z).flatten)
 |0=>rfl
 |n+1=>by
  simp only[dm,List.replicate_succ,List.flatten_cons];exact RvL.append _ _ _ _ (C7 _ _ (ff z)) (xc z n)
theorem ko(z:List Value)(p:0<z.length):∀(n j:Nat),j<n*z.length->((List.replicate n z).flatten)[j]?=z[j%z.length]?
 |0,j,h=>by simp at h
 |n+1,j,h=>by
  simp only[List.replicate_succ,List.flatten_cons];by_cases m:j<z.length
  ·rw[List.getElem?_append_left m,Nat.mod_eq_of_lt m]
  ·rw[List.getElem?_append_right (by omega),ko z p n (j-z.length) (by rw[Nat.add_mul,Nat.one_mul]at h;omega)];congr 1;rw[<-Nat.mod_eq_sub_mod (by omega)]
theorem jY(z:Array Value)(n:Nat)(m:0<z.size):(madeCells z (n*z.size)).toList=(List.replicate n z.toList).flatten:=by
 apply List.ext_getElem?;intro j;by_cases p:j<n*z.size
 ·rw[ko z.toList (by simpa using m) n j (by simpa using p)];simp[madeCells,p,Nat.mod_lt _ m,getElem!_pos]
 ·rw[List.getElem?_eq_none (by simp[madeCells];omega),List.getElem?_eq_none (by simp;omega)]
theorem all_zero{z:List Value}(h:(z.map AV.at).all fq=true):∀v∈z,v.oneCell'=true:=by
 simpa [fq,List.all_map]using h
theorem jB{z:List Value}(h:∀v∈z,v.oneCell'=true)(n:Nat):∀v∈(List.replicate n z).flatten,v.oneCell'=true:=by
 intro v j;simp only[List.mem_flatten,List.mem_replicate]at j;obtain⟨l,⟨_,rfl⟩,j⟩:=j;exact h v j
section
variable{P:Program}{out:Nat->Prop}{B:Nat->Prop}{w:World}{π:List (Option PB)}{H:List Blk}
theorem qU(p:Inv out B w π H){n:Nat}(z:n<=H.length)(C:∀q,π[n]?≠some (some q))(cs:List AV)(vs:Array Value)(e:TypeId)(h:RvL w (aI out π H) π cs (vs.toList.take cs.length))(h1:∀v∈vs.toList.take cs.length,v.oneCell'=true):
  Ext B w (w.alloc (.cells vs e)) (aI out π H) (aI out (upd π n (some ⟨w.heap.size,0,vs.size,fun _=>none⟩)) (aN H [(n,.own cs)])) π (upd π n (some ⟨w.heap.size,0,vs.size,fun _=>none⟩))/\
  Inv out B (w.alloc (.cells vs e)) (upd π n (some ⟨w.heap.size,0,vs.size,fun _=>none⟩)) (aN H [(n,.own cs)]):=by
 have D:=oz p (.cells vs e) (.own cs) ⟨w.heap.size,0,vs.size,fun _=>none⟩ rfl z C;refine⟨D,p.alloc _ _ _ rfl z C ⟨⟨vs,e,(by show(w.heap.push _)[w.heap.size]?=_;simp),rfl⟩,?_⟩⟩;refine gV cs (vs.toList.take cs.length) _ _ (RvL.ext D _ _ h) h1 fun j v m=>?_
 rw[Nat.zero_add,World.cell?_alloc_new];rw[List.getElem?_take]at m;split at m
 ·simpa using m
 ·cases m
theorem lk(m:Inv out B w π H){n:Nat}(p:n<=H.length)(z:∀q,π[n]?≠some (some q))(cs:List AV)(vs:Array Value)(e:TypeId)(h:RvL w (aI out π H) π cs vs.toList)(h1:∀v∈vs.toList,v.oneCell'=true):
  Ext B w (w.alloc (.cells vs e)) (aI out π H) (aI out (upd π n (some ⟨w.heap.size,0,vs.size,fun _=>none⟩)) (aN H [(n,.own cs)])) π (upd π n (some ⟨w.heap.size,0,vs.size,fun _=>none⟩))/\
  Inv out B (w.alloc (.cells vs e)) (upd π n (some ⟨w.heap.size,0,vs.size,fun _=>none⟩)) (aN H [(n,.own cs)]):=by
 have C:=RvL.length _ _ h;have j:vs.toList.take cs.length=vs.toList:=by rw[<-C,List.take_length]
 exact qU m p z cs vs e (by rw[j];exact h) (by rw[j];exact h1)
theorem gl(j:Inv out B w π H){n:Nat}(m:n<=H.length)(p:PB):(upd π n (some p))[n]?=some (some p):=by rw[eI (by have:=j.len;omega),if_pos rfl]
end
end Go.Eng
namespace Go
theorem lbT{n m:Nat}(h:Nat.ble n m=true):n<=m:=Nat.le_of_ble_eq_true h
theorem dcT{p:Prop}[Decidable p](h:decide p=true):p:=of_decide_eq_true h
theorem dcF{p:Prop}[Decidable p](h:decide p=false):¬p:=of_decide_eq_false h
theorem mrT{a b c:Int}(h:a<=b)(k:0<=c):a*c<=b*c:=Int.mul_le_mul_of_nonneg_right h k
theorem mlT{a b c:Int}(h:a<=b)(k:0<=c):c*a<=c*b:=Int.mul_le_mul_of_nonneg_left h k
theorem geT{α:Type _}{l:List α}{i:Nat}(h:i<l.length):l[i]?=some l[i]:=List.getElem?_eq_getElem h
end Go
