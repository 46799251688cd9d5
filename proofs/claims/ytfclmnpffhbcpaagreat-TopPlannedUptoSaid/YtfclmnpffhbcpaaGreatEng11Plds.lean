import Derived.Test.YtfclmnpffhbcpaaGreatEng8Plds
set_option linter.all false
namespace Go.Eng
open Go Go.RowKit
variable[Dr]
section
variable{P:Program}{out:Nat->Prop}{B:Nat->Prop}
theorem tG(z:zA P){call:gi}(q:lB P call){ops:Array Oper}{Q:Exit->Act->World->Prop}:∀(l:List Oper) (k:Nat) (st st':St) (w:World) (π:List (Option PB)) (a:Act),(∀j,l[j]?=ops[k+j]?)->
  jj P call ops.toList l st=some st'->Rep out B w π st a->
  (∀a' w' π',Rep out B w' π' st' a'->Ext B w w' (aY out π st.heap) (aY out π' st'.heap) π π'->Q .normal a' w')->wpOps P ops Q (List.range' k l.length) a w
 |[],k,st,st',w,π,a,_,h,E,I=>by
  cases h;exact I a w π E (Ext.refl _ _ _)
 |o::l,k,st,st',w,π,a,S,h,E,I=>by
  simp only[jj]at h;split at h
  ·rename_i st1 U h1;have T:ops[k]?=some o:=by simpa using(S 0).symm
   simp only[List.length_cons,List.range'_succ,wpOps,T];refine A7 z q E h1 (K:=wpOps P ops Q (List.range' (k+1) l.length)) (Q:=Q) fun a' w' π' J N=>?_
   refine tG z q l (k+1) st1 st' w' π' a' (fun j=>?_) h J fun O R π'' C D=>I O R π'' C (N.trans D)
   have:=S (j+1);simpa [Nat.add_assoc,Nat.add_comm 1 j]using this
  ·cases h
end
def fC(ws:List (Nat×Blk)):List Nat:=ws.map (·.1)
theorem km:∀(ws:List (Nat×Blk)) (h:List Blk),(∀i∈fC ws,i<h.length)->(bj h ws).length=h.length
 |[],_,_=>rfl
 |(i,x)::ws,h,q=>by
  have hi:i<h.length:=q i (by simp[fC]);have e:(upd h i x).length=h.length:=by rw[ew (by omega),if_neg (by omega)]
  rw[bj,km ws _ (fun j z=>by rw[e];exact q j (by simp[fC]at z ⊢;exact .inr z)),e]
theorem oM{b:Nat}:∀(ws:List (Nat×Blk)) (h:List Blk),(∀i∈fC ws,i<h.length)->b∉fC ws->(bj h ws)[b]?=h[b]?
 |[],_,_,_=>rfl
 |(i,x)::ws,h,z,C=>by
  have hi:i<h.length:=z i (by simp[fC]);have e:(upd h i x).length=h.length:=by rw[ew (by omega),if_neg (by omega)]
  rw[bj,oM ws _ (fun j D=>by rw[e];exact z j (by simp[fC]at D ⊢;exact .inr D)) (fun q=>C (by simp[fC]at q ⊢;exact .inr q)),hU (by omega),if_neg];rintro rfl;exact C (by simp[fC])
theorem re{b:Nat}:∀(ws:List (Nat×Blk)) (h k:List Blk),h.length=k.length->(∀i∈fC ws,i<h.length)->(b∈fC ws\/h[b]?=k[b]?)->(bj h ws)[b]?=(bj k ws)[b]?
 |[],_,_,_,_,q=>by rcases q with q|q;(simp[fC]at q);exact q
 |(i,x)::ws,h,k,hlen,C,q=>by
  have hi:i<h.length:=C i (by simp[fC]);have e1:(upd h i x).length=h.length:=by rw[ew (by omega),if_neg (by omega)]
  have e2:(upd k i x).length=k.length:=by rw[ew (by omega),if_neg (by omega)]
  refine re ws _ _ (by omega) (fun j D=>by rw[e1];exact C j (by simp[fC]at D ⊢;exact .inr D)) ?_;by_cases z:b=i
  ·right;subst z;rw[hU (by omega),hU (by omega),if_pos rfl,if_pos rfl]
  ·rcases q with q|q
   ·left;simp only[fC,List.map_cons,List.mem_cons]at q ⊢;exact q.resolve_left z
   ·right;rw[hU (by omega),hU (by omega),if_neg z,if_neg z];exact q
theorem pK(s:List AV)(d:Option Tmp)(v:AV):(iL s d v).length=s.length:=by cases d<;>simp[iL]
theorem ua{s:List AV}{d:Option Tmp}{v:AV}{t:Nat}(h:t∉d.toList):(iL s d v)[t]?=s[t]?:=by
 cases d with
 |none=>rfl
 |some d=>simp only[iL];rw[List.getElem?_set,if_neg];rintro rfl;exact h (by simp)
theorem ye{s r:List AV}{d:Option Tmp}{v:AV}{t:Nat}(q:s.length=r.length)(h:t∈d.toList\/s[t]?=r[t]?):(iL s d v)[t]?=(iL r d v)[t]?:=by
 cases d with
 |none=>rcases h with h|h;(simp at h);exact h
 |some d=>
  simp only[iL];rw[List.getElem?_set,List.getElem?_set,q];split
  ·rfl
  ·rename_i j;rcases h with h|h
   ·simp at h;exact(j h.symm).elim
   ·exact h
def fH(e:Ent)(st:St):St:=⟨iL st.slots e.o.dst e.v,bj st.heap e.ws⟩
def dk:List Ent->(Nat->Bool)->Nat->St->St
 |[],_,_,st=>st
 |e::es,s,k,st=>dk es s (k+1) (if s k then fH e st else st)
def Below(L:Nat)(es:List Ent):Prop:=∀e∈es,∀i∈fC e.ws,i<L
theorem oU{L:Nat}:∀(es:List Ent) (s:Nat->Bool) (k:Nat) (st:St),Below L es->st.heap.length=L->(dk es s k st).heap.length=L/\(dk es s k st).slots.length=st.slots.length
 |[],_,_,_,_,h=>⟨h,rfl⟩
 |e::es,s,k,st,j,h=>by
  simp only[dk];split
  ·have h1:=oU es s (k+1) (fH e st) (fun x q=>j x (by simp[q])) (by rw[fH];simp only;rw[km _ _ (by rw[h];exact j e (by simp)),h]);exact⟨h1.1,by rw[h1.2];simp[fH,pK]⟩
  ·exact oU es s (k+1) st (fun x q=>j x (by simp[q])) h
theorem jT{L b:Nat}:∀(es:List Ent) (s r:Nat->Bool) (k:Nat) (st C:St),Below L es->st.heap.length=L->C.heap.length=L->st.heap[b]?=C.heap[b]?->
  (∀(j:Nat) (e:Ent),es[j]?=some e->b∈fC e.ws->s (k+j)=r (k+j))->(dk es s k st).heap[b]?=(dk es r k C).heap[b]?
 |[],_,_,_,_,_,_,_,_,h,_=>h
 |e::es,s,r,k,st,C,N,h1,I,h,hs=>by
  have q:=N e (by simp);have D:Below L es:=fun x O=>N x (by simp[O])
  have E:∀(j:Nat) (J:Ent),es[j]?=some J->b∈fC J.ws->s (k+1+j)=r (k+1+j):=fun j J R S=>by
   have:=hs (j+1) J (by simpa using R) S;simpa [Nat.add_assoc,Nat.add_comm 1 j]using this
  have l1:(fH e st).heap.length=L:=by simp only[fH];rw[km _ _ (by rw[h1];exact q),h1]
  have l2:(fH e C).heap.length=L:=by simp only[fH];rw[km _ _ (by rw[I];exact q),I]
  simp only[dk];by_cases z:b∈fC e.ws
  ·have:=hs 0 e rfl z;simp only[Nat.add_zero]at this;rw[this];split
   ·exact jT es s r (k+1) _ _ D l1 l2 (re _ _ _ (by omega) (by rw[h1];exact q) (.inl z)) E
   ·exact jT es s r (k+1) _ _ D h1 I h E
  ·have T:(fH e st).heap[b]?=st.heap[b]?:=oM _ _ (by rw[h1];exact q) z;have U:(fH e C).heap[b]?=C.heap[b]?:=oM _ _ (by rw[I];exact q) z;split<;>split<;>refine jT es s r (k+1) _ _ D (by assumption) (by assumption) ?_ E<;>simp only[T,U,h]
theorem jQ{t:Nat}:∀(es:List Ent) (s r:Nat->Bool) (k:Nat) (st z:St),st.slots.length=z.slots.length->st.slots[t]?=z.slots[t]?->
  (∀(j:Nat) (e:Ent),es[j]?=some e->t∈e.o.dst.toList->s (k+j)=r (k+j))->(dk es s k st).slots[t]?=(dk es r k z).slots[t]?
 |[],_,_,_,_,_,_,h,_=>h
 |e::es,s,r,k,st,z,E,h,hs=>by
  have C:∀(j:Nat) (D:Ent),es[j]?=some D->t∈D.o.dst.toList->s (k+1+j)=r (k+1+j):=fun j D I J=>by
   have:=hs (j+1) D (by simpa using I) J;simpa [Nat.add_assoc,Nat.add_comm 1 j]using this
  have l1:(fH e st).slots.length=st.slots.length:=pK _ _ _;have l2:(fH e z).slots.length=z.slots.length:=pK _ _ _;simp only[dk];by_cases q:t∈e.o.dst.toList
  ·have:=hs 0 e rfl q;simp only[Nat.add_zero]at this;rw[this];split
   ·exact jQ es s r (k+1) _ _ (by omega) (ye E (.inl q)) C
   ·exact jQ es s r (k+1) _ _ E h C
  ·have N:(fH e st).slots[t]?=st.slots[t]?:=ua q;have O:(fH e z).slots[t]?=z.slots[t]?:=ua q;split<;>split<;>refine jQ es s r (k+1) _ _ (by omega) ?_ C<;>simp only[N,O,h]
theorem mL{L b:Nat}:∀(es:List Ent) (s:Nat->Bool) (k i:Nat) (st:St) (e:Ent),Below L es->st.heap.length=L->es[i]?=some e->s (k+i)=false->b∈fC e.ws->
  (∀(j:Nat) (z:Ent),i<j->es[j]?=some z->b∈fC z.ws->s (k+j)=false)->
  (dk es (fun j=>s j||decide (j=k+i)) k st).heap[b]?=(bj (dk es s k st).heap e.ws)[b]?
 |[],_,_,_,_,_,_,_,h,_,_,_=>by simp at h
 |e0::es,s,k,0,st,e,O,I,h,hs,J,q=>by
  simp only[List.getElem?_cons_zero,Option.some.injEq]at h;subst h;have D:=O e0 (by simp);have E:Below L es:=fun x S=>O x (by simp[S])
  simp only[Nat.add_zero]at hs;simp only[dk,Nat.add_zero,hs,Bool.false_eq_true,if_false,decide_true,Bool.false_or,if_true];have hlen:=(oU es s (k+1) st E I).1;have l1:(fH e0 st).heap.length=L:=by simp only[fH];rw[km _ _ (by rw[I];exact D),I]
  have T:∀(r:Nat->Bool) (C:St),C.heap.length=L->(∀(j:Nat) (z:Ent),es[j]?=some z->b∈fC z.ws->r (k+1+j)=false)->(dk es r (k+1) C).heap[b]?=C.heap[b]?:=by
   intro r C R Z;have:=jT (b:=b) es r (fun _=>false) (k+1) C C E R R rfl (fun j z h1 N=>Z j z h1 N);rw[this];clear this;have U:∀(es:List Ent) (k:Nat) (C:St),dk es (fun _=>false) k C=C:=by
    intro es;induction es with
    |nil=>intro _ _;rfl
    |cons x es ih=>intro k C;simp[dk,ih]
   rw[U]
  have Y:∀(j:Nat) (z:Ent),es[j]?=some z->b∈fC z.ws->s (k+1+j)=false:=fun j z h1 N=>by
   have:=q (j+1) z (by omega) (by simpa using h1) N;simpa [Nat.add_assoc,Nat.add_comm 1 j]using this
  rw[T _ _ l1 (fun j z h1 N=>by simp[Y j z h1 N];omega)];refine re _ _ _ (by omega) (by rw[I];exact D) (.inl J)
 |e0::es,s,k,i+1,st,e,O,I,h,hs,J,q=>by
  have D:=O e0 (by simp);have E:Below L es:=fun x S=>O x (by simp[S])
  simp only[dk];have hk:decide (k=k+(i+1))=false:=by simp
  simp only[hk,Bool.or_false];have l1:(if s k then fH e0 st else st).heap.length=L:=by
   split
   ·simp only[fH];rw[km _ _ (by rw[I];exact D),I]
   ·exact I
  have:=mL es s (k+1) i (if s k then fH e0 st else st) e E l1 (by simpa using h) (by rw[<-hs];congr 1;omega) J (fun j z h0 h1 N=>by
   have:=q (j+1) z (by omega) (by simpa using h1) N;rw[<-this];congr 1;omega)
  rw[<-this];simp only[show k+1+i=k+(i+1)by omega]
theorem ui:∀(es:List Ent) (k:Nat) (j:St),dk es (fun _=>false) k j=j:=by
 intro es;induction es with
 |nil=>intro _ _;rfl
 |cons x es q=>intro k j;simp[dk,q]
theorem ow:∀(es:List Ent) (s:Nat->Bool) (k:Nat) (st:St),(dk es s k st).slots.length=st.slots.length
 |[],_,_,_=>rfl
 |e::es,s,k,st=>by
  simp only[dk];split
  ·rw[ow es s (k+1) (fH e st)];exact pK _ _ _
  ·exact ow es s (k+1) st
theorem pA{t:Nat}:∀(es:List Ent) (s:Nat->Bool) (k i:Nat) (st:St) (e:Ent),es[i]?=some e->s (k+i)=false->t∈e.o.dst.toList->
  (∀(j:Nat) (z:Ent),i<j->es[j]?=some z->t∈z.o.dst.toList->s (k+j)=false)->
  (dk es (fun j=>s j||decide (j=k+i)) k st).slots[t]?=(iL (dk es s k st).slots e.o.dst e.v)[t]?
 |[],_,_,_,_,_,h,_,_,_=>by simp at h
 |e0::es,s,k,0,st,e,h,hs,C,q=>by
  simp only[List.getElem?_cons_zero,Option.some.injEq]at h;subst h;simp only[Nat.add_zero]at hs;simp only[dk,Nat.add_zero,hs,Bool.false_eq_true,if_false,decide_true,Bool.false_or,if_true];have I:∀(r:Nat->Bool) (E:St),(∀(j:Nat) (z:Ent),es[j]?=some z->t∈z.o.dst.toList->r (k+1+j)=false)->(dk es r (k+1) E).slots[t]?=E.slots[t]?:=by
   intro r E N;rw[jQ (t:=t) es r (fun _=>false) (k+1) E E rfl rfl (fun j z h1 D=>N j z h1 D),ui]
  have J:∀(j:Nat) (z:Ent),es[j]?=some z->t∈z.o.dst.toList->s (k+1+j)=false:=fun j z h1 D=>by
   have:=q (j+1) z (by omega) (by simpa using h1) D;simpa [Nat.add_assoc,Nat.add_comm 1 j]using this
  rw[I _ _ (fun j z h1 D=>by simp[J j z h1 D];omega)];exact ye (by rw[ow]) (.inl C)
 |e0::es,s,k,i+1,st,e,h,hs,C,q=>by
  simp only[dk];have hk:decide (k=k+(i+1))=false:=by simp
  simp only[hk,Bool.or_false];have:=pA es s (k+1) i (if s k then fH e0 st else st) e (by simpa using h) (by rw[<-hs];congr 1;omega) C (fun j z O h1 D=>by
   have:=q (j+1) z (by omega) (by simpa using h1) D;rw[<-this];congr 1;omega)
  rw[<-this];simp only[show k+1+i=k+(i+1)by omega]
end Go.Eng


namespace Go.Eng
open Go Go.RowKit
variable[Dr]
theorem A1{H:List Blk}{nid n by_:Nat}{s x:AV}{r:ct}(h:kE H nid n by_ s x=some r):
  (∃v ws y,r=.eff v ws/\(nid,y)∈ws)\/∀j,kE H j n by_ s x=some r:=by
 unfold kE at h;split at h
 ·cases h
 ·rename_i new m z;split at h
  ·split at h
   ·cases h;exact .inl ⟨_,_,_,rfl,by simp;rfl⟩
   ·cases h
  ·split at h
   ·rename_i q;cases h;refine .inr fun j=>?_
    simp only[kE,z,q]
   ·cases h
  ·split at h
   ·split at h
    ·cases h;exact .inl ⟨_,_,_,rfl,by simp;exact .inr rfl⟩
    ·cases h
   ·split at h
    ·cases h;exact .inl ⟨_,_,_,rfl,by simp;exact .inr rfl⟩
    ·cases h
   ·cases h
  ·split at h
   ·rename_i hH;split at h
    ·rename_i q;split at h
     ·rename_i C;cases h;refine .inr fun j=>?_
      simp only[kE,z,hH,q,C]
     ·cases h;exact .inl ⟨_,_,_,rfl,by simp;rfl⟩
    ·cases h
   ·cases h
  ·cases h
theorem zT{P:Program}{H:List Blk}{nid:Nat}{b:Builtin}{at_:Array TypeId}{ty:TypeId}{args:List AV}{r:ct}(h:om P H nid b at_ ty args=some r):
  (∃v ws y,r=.eff v ws/\(nid,y)∈ws)\/∀j,om P H j b at_ ty args=some r:=by
 cases b
 case append=>
  match args with
  |[s,x]=>
   simp only[om]at h ⊢;cases h1:at_[0]? with
   |none=>simp[h1]at h
   |some t=>
    cases C:at_[1]? with
    |none=>simp[h1,C]at h
    |some D=>
     simp only[h1,C]at h ⊢;split at h
     ·split at h
      ·split at h
       ·rename_i n z by_ _ _ _ _ _;rcases A1 h with q|q
        ·exact .inl q
        ·refine .inr fun j=>?_
         exact q j
       ·cases h
      ·cases h
     ·split at h
      ·unfold vb at h;split at h
       ·split at h
        ·cases h;exact .inl ⟨_,_,_,rfl,by simp;rfl⟩
        ·cases h
       ·cases h
      ·cases h
     ·cases h
  |[]=>exact .inr fun _=>h
  |[_]=>exact .inr fun _=>h
  |_::_::_::_=>exact .inr fun _=>h
 all_goals (refine .inr fun _=>?_;rcases args with _|⟨x,_|⟨y,_|⟨z,l⟩⟩⟩<;>exact h)
theorem xJ{P:Program}{ρ:Operand->AV}{H:List Blk}{nid:Nat}{o:Oper}{r:ct}(h:evalOp P ρ H nid o=some r):
  (∃v ws x,r=.eff v ws/\(nid,x)∈ws)\/∀j,evalOp P ρ H j o=some r:=by
 unfold evalOp at h;unfold evalOp;cases q:o.op<;>simp only[q,tl,yV,lF,ml,wx,nV]at h ⊢
 case alloc t=>
  split at h
  ·split at h
   ·cases h;exact .inl ⟨_,_,_,rfl,by simp;rfl⟩
   ·cases h
  ·cases h
 case box t x=>
  split at h
  ·cases h;exact .inl ⟨_,_,_,rfl,by simp;rfl⟩
  ·cases h
 case buildSlice t n z=>
  split at h
  ·split at h
   ·split at h
    ·split at h
     ·cases h;exact .inl ⟨_,_,_,rfl,by simp;rfl⟩
     ·cases h
    ·cases h
   ·cases h
  ·cases h
 case makeSlice t l c=>
  split at h
  ·split at h
   ·split at h
    ·cases h;exact .inl ⟨_,_,_,rfl,by simp;rfl⟩
    ·cases h
   ·cases h
  ·cases h
 case makeMap t r=>
  unfold qw at h;split at h
  ·cases h;exact .inl ⟨_,_,_,rfl,by simp;rfl⟩
  ·split at h
   ·cases h;exact .inl ⟨_,_,_,rfl,by simp;rfl⟩
   ·cases h
 case range t x=>
  unfold tp at h;split at h
  ·cases h;exact .inl ⟨_,_,_,rfl,by simp;rfl⟩
  ·cases h
 case makeFunc fn C cs=>cases fn<;>first|exact .inr fun _=>h|exact .inr fun _=>by simpa using h
 case slice t x lo hi mx=>cases mx<;>first|exact .inr fun _=>h|exact .inr fun _=>by simpa using h
 case call c=>
  cases hc:c.callee<;>simp only[hc]at h ⊢
  case value f=>exact .inr fun _=>h
  case builtin b=>exact zT h
  case invoke=>cases h
 all_goals exact .inr fun _=>h
def pad(L:Nat)(H:List Blk):List Blk:=H++jw (L-H.length)
theorem rh{L:Nat}{H:List Blk}(h:H.length<=L):(pad L H).length=L:=by simp[pad,jw];omega
theorem zp{L b:Nat}{H:List Blk}(h:b<H.length):(pad L H)[b]?=H[b]?:=by simp only[pad];rw[List.getElem?_append_left h]
theorem DE{H:List Blk}:pad H.length H=H:=by simp[pad,jw]
theorem C3{L n:Nat}{H:List Blk}(h:H.length+n<=L):pad L (H++jw n)=pad L H:=by
 simp only[pad,jw,List.length_append,List.length_replicate,List.append_assoc,List.replicate_append_replicate];rw[show n+(L-(H.length+n))=L-H.length by omega]
theorem ES{L i:Nat}{H:List Blk}{x:Blk}(hi:i<=H.length)(C:(upd H i x).length<=L):pad L (upd H i x)=upd (pad L H) i x:=by
 have z:=ew (x:=x) hi;by_cases he:i=H.length
 ·subst he;rw[if_pos rfl]at z;have j:H.length<(pad L H).length:=by rw[rh (by omega)];omega
  unfold upd;rw[if_neg (by omega),if_pos j];simp only[pad,jw,List.length_append,List.length_singleton];rw[List.set_append_right _ _ (Nat.le_refl _),Nat.sub_self];obtain⟨m,hm⟩:∃m,L-H.length=m+1:=⟨L-H.length-1,by omega⟩;rw[hm,show L-(H.length+1)=m by omega,List.replicate_succ,List.set_cons_zero];simp
 ·have j:i<H.length:=by omega
  rw[if_neg he]at z;have q:i<(pad L H).length:=by rw[rh (by omega)];omega
  unfold upd;rw[if_pos j,if_pos q];simp only[pad,List.length_set];rw[List.set_append_left _ _ j]
theorem uq{L:Nat}:∀(ws:List (Nat×Blk)) (H:List Blk),(∀i∈fC ws,i<=H.length)->(bj H ws).length<=L->
  pad L (bj H ws)=bj (pad L H) ws/\H.length<=(bj H ws).length/\∀i∈fC ws,i<(bj H ws).length
 |[],H,_,_=>⟨rfl,Nat.le_refl _,by simp[fC]⟩
 |(i,x)::ws,H,hi,I=>by
  have z:i<=H.length:=hi i (by simp[fC]);have J:=ew (x:=x) z;have C:H.length<=(upd H i x).length:=by rw[J];split<;>omega
  have D:i<(upd H i x).length:=by rw[J];split<;>omega
  obtain⟨h1,E,N⟩:=uq ws (upd H i x) (fun j q=>Nat.le_trans (hi j (by simp[fC]at q ⊢;exact .inr q)) C) I;refine⟨?_,Nat.le_trans C E,?_⟩
  ·rw[bj,h1,bj,ES z (Nat.le_trans E I)]
  ·intro j q;simp only[fC,List.map_cons,List.mem_cons]at q;rcases q with rfl|q
   ·exact Nat.lt_of_lt_of_le D E
   ·exact N j q
theorem qD{len:Nat}{e:Ent}(h:oH len e=true):(∀b∈e.rd,b<len)/\(∀i∈fC e.ws,i<=len+e.n/\(0<e.n->i<len+e.n))/\(∀j,j<e.n->len+j∈fC e.ws):=by
 simp only[oH,Bool.and_eq_true,List.all_eq_true,decide_eq_true_eq]at h;obtain⟨h1,q⟩:=h;refine⟨h1,?_,?_⟩
 ·intro i hi;simp only[fC,List.mem_map]at hi;obtain⟨p,hp,rfl⟩:=hi;cases z:e.n with
  |zero=>simp only[z,List.all_eq_true,decide_eq_true_eq]at q;exact⟨by have:=q p hp;omega,by omega⟩
  |succ n=>simp only[z,Bool.and_eq_true,List.all_eq_true,decide_eq_true_eq]at q;have:=q.1 p hp;omega
 ·intro j C;cases z:e.n with
  |zero=>omega
  |succ n=>
   simp only[z,Bool.and_eq_true,List.all_eq_true,decide_eq_true_eq]at q;have:=q.2 j (by simp;omega);simpa [fC]using this
theorem Dp{P:Program}{call:gi}{ops:List Oper}{o:Oper}{st st1:St}{e:Ent}{L:Nat}(h:lO P call ops o st=some (st1,some e))(q:oH st.heap.length e=true)(z:st1.heap.length<=L):
  e.o=o/\e.nid=st.heap.length/\st.heap.length<=st1.heap.length/\(∀i∈fC e.ws,i<st1.heap.length)/\fH e ⟨st.slots,pad L st.heap⟩=⟨st1.slots,pad L st1.heap⟩:=by
 obtain⟨_,j,_⟩:=qD q;unfold lO at h;split at h
 ·split at h
  ·rename_i v E;rw[fN]at h;cases h;exact⟨rfl,rfl,Nat.le_refl _,by simp[fC],rfl⟩
  ·rename_i v ws E;rw[fN]at h;cases h;obtain⟨h1,D,C⟩:=uq (L:=L) ws st.heap (fun i hi=>by have:=(j i hi).1;simpa using this) z;exact⟨rfl,rfl,D,C,by simp only[fH,h1]⟩
  ·split at h
   ·rename_i f args _ v ws rd n hc;rw[fN]at h;cases h;simp only at j z;obtain⟨h1,D,C⟩:=uq (L:=L) ws (st.heap++jw n) (fun i hi=>by have:=(j i hi).1;simp[jw];omega) z;have I:(st.heap++jw n).length=st.heap.length+n:=by simp[jw]
    have hle:st.heap.length+n<=L:=by omega
    refine⟨rfl,rfl,by simp only;omega,C,?_⟩;simp only[fH];rw[h1,C3 hle]
   ·rw[fN]at h;cases h
   ·cases h
  ·cases h
 ·rw[fN]at h;cases h;exact⟨rfl,rfl,Nat.le_refl _,by simp[fC],rfl⟩
 ·cases h
theorem nt:∀(es:List Ent) (k j:Nat) (st:St),dk es (fun _=>true) k st=dk es (fun _=>true) j st
 |[],_,_,_=>rfl
 |e::es,k,j,st=>by simp only[dk,if_true];exact nt es _ _ _
theorem wK{P:Program}{call:gi}{ops:List Oper}{L:Nat}:∀(rest:List Oper) (st st':St) (es:List Ent),gO P call ops rest st=some (st',es)->st'.heap.length<=L->
  st.heap.length<=st'.heap.length/\es.length=rest.length/\Below st'.heap.length es/\dk es (fun _=>true) 0 ⟨st.slots,pad L st.heap⟩=⟨st'.slots,pad L st'.heap⟩/\
  ∀(j:Nat) (e:Ent),es[j]?=some e->∃o q st1,rest[j]?=some o/\lO P call ops o q=some (st1,some e)/\oH q.heap.length e=true/\e.o=o/\e.nid=q.heap.length/\st.heap.length<=q.heap.length/\
   q.heap.length<=L/\dk (es.take j) (fun _=>true) 0 ⟨st.slots,pad L st.heap⟩=⟨q.slots,pad L q.heap⟩
 |[],st,st',es,h,J=>by
  cases h;exact⟨Nat.le_refl _,rfl,by simp[Below],rfl,by simp⟩
 |o::rest,st,st',es,h,J=>by
  simp only[gO]at h;split at h
  ·rename_i st1 e h1;split at h
   ·rename_i st2 z C O;cases h;obtain⟨i1,i2,i3,i4,i5⟩:=wK rest st1 st' z O J;obtain⟨R,S,U,T,N⟩:=Dp (L:=L) h1 C (by omega);refine⟨by omega,by simp[i2],?_,?_,?_⟩
    ·intro x D i hi;rcases List.mem_cons.1 D with rfl|D
     ·exact Nat.lt_of_lt_of_le (T i hi) i1
     ·exact i3 x D i hi
    ·simp only[dk,if_true];rw[N,nt z (0+1) 0,i4]
    ·intro j x E;cases j with
     |zero=>
      simp at E;subst E;exact⟨o,st,st1,rfl,h1,C,R,S,Nat.le_refl _,by omega,rfl⟩
     |succ j=>
      obtain⟨o',q,I,g1,g2,g3,g4,g5,g6,g7,g8⟩:=i5 j x (by simpa using E);refine⟨o',q,I,by simpa using g1,g2,g3,g4,g5,by omega,g7,?_⟩;simp only[List.take_succ_cons,dk,if_true];rw[N,nt _ (0+1) 0,g8]
   ·cases h
  ·cases h
theorem um:∀(es:List Ent) (i k:Nat) (st:St),dk es (fun j=>decide (j<k+i)) k st=dk (es.take i) (fun _=>true) k st
 |[],i,k,st=>by simp[dk]
 |e::es,0,k,st=>by
  have:∀(es:List Ent) (m:Nat) (st:St),k<=m->dk es (fun j=>decide (j<k+0)) m st=st:=by
   intro es;induction es with
   |nil=>intro _ _ _;rfl
   |cons x es q=>intro m st hm;simp only[dk];rw[if_neg (by simp;omega)];exact q (m+1) st (by omega)
  rw[this _ k st (Nat.le_refl _)];rfl
 |e::es,i+1,k,st=>by
  simp only[dk,List.take_succ_cons,if_true];rw[if_pos (by simp)];have:=um es i (k+1) (fH e st);rw[<-this];congr 1;funext j;congr 1;simp only[eq_iff_iff];omega
end Go.Eng


namespace Go.Eng
open Go Go.RowKit
variable[Dr]
theorem qS(acc:List Nat)(i:Nat):∀(l:List Edge) (s:Nat),(l.foldl (fun s e=>if Region.binds .any e then s ||| (2^e.on ||| acc.getD e.on 0)else s) s).testBit i=true->
  s.testBit i=true\/∃e∈l,Region.binds .any e=true/\(e.on=i\/(acc.getD e.on 0).testBit i=true)
 |[],_,h=>.inl h
 |e::l,s,h=>by
  simp only[List.foldl_cons]at h;rcases qS acc i l _ h with h|⟨q,h1,z⟩
  ·split at h
   ·rename_i j;simp only[Nat.testBit_or,Bool.or_eq_true]at h;rcases h with h|h|h
    ·exact .inl h
    ·refine .inr ⟨e,by simp,j,.inl ?_⟩;rw[Nat.testBit_two_pow]at h;simpa using h
    ·exact .inr ⟨e,by simp,j,.inr h⟩
   ·exact .inl h
  ·exact .inr ⟨q,by simp[h1],z⟩
theorem sL:∀(l:List Oper) (acc:List Nat) (j:Nat),j<acc.length->(uC acc l)[j]?=acc[j]?
 |[],_,_,_=>rfl
 |o::l,acc,j,h=>by
  rw[uC,sL l _ j (by simp;omega),List.getElem?_append_left h]
theorem AH:∀(l:List Oper) (acc:List Nat) (j:Nat) (o:Oper),l[j]?=some o->∃q,(uC acc l)[acc.length+j]?=some (xa q o)/\q.length=acc.length+j/\∀k,k<q.length->(uC acc l)[k]?=q[k]?
 |[],_,_,_,h=>by simp at h
 |o::l,acc,0,o',h=>by
  simp at h;subst h;refine⟨acc,?_,rfl,fun k hk=>sL (o::l) acc k hk⟩;rw[uC,sL l _ _ (by simp)];simp
 |o::l,acc,j+1,o',h=>by
  obtain⟨q,h1,z,C⟩:=AH l (acc++[xa acc o]) j o' (by simpa using h);refine⟨q,?_,by simp at z;omega,fun k hk=>by rw[uC];exact C k hk⟩;rw[uC];simpa [Nat.add_assoc,Nat.add_comm 1 j]using h1
theorem sF:∀(l:List Oper) (k j:Nat) (o:Oper),rl l k=true->l[j]?=some o->∀e∈o.after.toList,Region.binds .any e=true->e.on<k+j
 |[],_,_,_,_,h=>by simp at h
 |o::l,k,0,o',hk,h=>by
  simp at h;subst h;simp only[rl,Bool.and_eq_true,List.all_eq_true]at hk;intro e he q;have:=hk.1 e he;simpa [q]using this
 |o::l,k,j+1,o',hk,h=>by
  simp only[rl,Bool.and_eq_true]at hk;intro e he q;have:=sF l (k+1) j o' hk.2 (by simpa using h) e he q;omega
theorem se{ops:List Oper}(J:rl ops 0=true){s:Nat->Bool}(N:∀(j:Nat) (o:Oper),ops[j]?=some o->s j=true->∀e∈o.after.toList,Region.binds .any e=true->s e.on=true):
  ∀(j:Nat) (o:Oper),ops[j]?=some o->(∀e∈o.after.toList,Region.binds .any e=true->s e.on=true)->∀i,((uC [] ops).getD j 0).testBit i=true->s i=true:=by
 intro j;induction j using Nat.strongRecOn with
 |_ j S=>
  intro o O he i hi;obtain⟨C,h1,T,U⟩:=AH ops [] j o O;simp only[List.length_nil,Nat.zero_add]at h1 T;rw[List.getD_eq_getElem?_getD,h1]at hi;simp only[Option.getD_some,xa]at hi;rcases qS C i _ _ hi with h|⟨e,D,E,q⟩
  ·simp at h
  ·have I:=he e D E;rcases q with rfl|q
   ·exact I
   ·have R:e.on<j:=by have:=sF ops 0 j o J O e D E;omega
    cases z:ops[e.on]? with
    |none=>
     have:=List.getElem?_eq_none_iff.1 z;have:=(List.getElem?_eq_some_iff.1 O).1;omega
    |some o'=>
     refine S e.on R o' z (N e.on o' z I) i ?_;rw[List.getD_eq_getElem?_getD,U e.on (by omega),<-List.getD_eq_getElem?_getD];exact q
theorem vc{ops:List Oper}{b:Ent}{m:Nat}:∀(l:List Ent) (k i:Nat) (a:Ent),sm ops b m l k=true->l[i]?=some a->(m.testBit (k+i)=true\/Ah ops a b=true\/tC ops a b (l.drop (i+1))=true)/\∀p∈a.ws,p.1<b.nid
 |[],_,_,_,_,h=>by simp at h
 |x::l,k,0,a,j,h=>by
  simp at h;subst h;simp only[sm,Bool.and_eq_true,Bool.or_eq_true,List.all_eq_true,decide_eq_true_eq]at j;exact⟨by simpa [or_assoc]using j.1.1,j.1.2⟩
 |x::l,k,i+1,a,j,h=>by
  simp only[sm,Bool.and_eq_true]at j;have:=vc l (k+1) i a j.2 (by simpa using h);rwa[show k+1+i=k+(i+1)by omega]at this
theorem pM{ops:List Oper}{q:List Nat}{all:List Ent}:∀(l:List Ent) (k j i:Nat) (a b:Ent),pL ops q all l k=true->l[j]?=some b->i<k+j->all[i]?=some a->
  ((q.getD (k+j) 0).testBit i=true\/Ah ops a b=true\/tC ops a b ((all.take (k+j)).drop (i+1))=true)/\∀p∈a.ws,p.1<b.nid
 |[],_,_,_,_,_,_,h,_,_=>by simp at h
 |x::l,k,0,i,a,b,z,h,hi,C=>by
  simp at h;subst h;simp only[pL,Bool.and_eq_true]at z;have:=vc _ 0 i a z.1 (by rw[List.getElem?_take,if_pos (by omega)];exact C);simpa using this
 |x::l,k,j+1,i,a,b,z,h,hi,C=>by
  simp only[pL,Bool.and_eq_true]at z;have:=pM l (k+1) j i a b z.2 (by simpa using h) (by omega) C;rwa[show k+1+j=k+(j+1)by omega]at this
theorem lX{l k:List Nat}(h:uo l k=true){x:Nat}(j:x∈l):x∉k:=by
 simp only[uo,List.all_eq_true,Bool.not_eq_true',List.contains_eq_mem]at h;have:=h x j;simpa using this
theorem xY{l:List Operand}{t:Tmp}(h:Operand.tmp t∈l):t∈Bx l:=by
 simp only[Bx,List.mem_filterMap];exact⟨_,h,rfl⟩
theorem yE{s r:List AV}{x:Operand}(h:∀t,x=.tmp t->s[t]?=r[t]?):evA s x=evA r x:=by
 cases x with
 |tmp t=>simp only[evA,rk,List.getD_eq_getElem?_getD,h t rfl]
 |_=>rfl
theorem yn{ops:List Oper}{o:Oper}{s r:List AV}(h:∀t∈fx ops o,s[t]?=r[t]?):ef ops o s=ef ops o r:=by
 unfold ef;cases q:o.guard with
 |none=>rfl
 |some g=>
  obtain⟨j,want⟩:=g;simp only;cases z:ops[j]? with
  |none=>rfl
  |some oj=>
   simp only;cases C:oj.dst with
   |none=>rfl
   |some d=>
    simp only;have:s[d]?=r[d]?:=h d (by simp[fx,q,z,C]);simp only[rk,List.getD_eq_getElem?_getD,this]
theorem BQ{P:Program}(U:zA P){call:gi}(Y:lB P call){ops:Array Oper}{o:Oper}{z st1 D:St}{e:Ent}(h:lO P call ops.toList o z=some (st1,some e))(b0:oH z.heap.length e=true)
  (hle:z.heap.length+e.n<=D.heap.length) (hs:∀t∈fx ops.toList o,D.slots[t]?=z.slots[t]?) (hh:(∀b∈e.rd,D.heap[b]?=z.heap[b]?)\/((∃t m k,o.op=.lookup t m k false)/\∀r,evalOp P (evA z.slots) z.heap z.heap.length o=some r->evalOp P (evA z.slots) D.heap z.heap.length o=some r))
  {out:Nat->Prop} {B:Nat->Prop} {w:World} {π:List (Option PB)} {a:Act} (C:Rep out B w π D a) (E:∀b∈fC e.ws,z.heap.length<=b->∀q,π[b]?≠some (some q))
  {K:Act->World->Prop} {Q:Exit->Act->World->Prop}
  (hK:∀a' w' π',Rep out B w' π' (fH e D) a'->Ext B w w' (aY out π D.heap) (aY out π' (fH e D).heap) π π'->(∀j,j∉fC e.ws->π'[j]?=π[j]?)->K a' w'):
  if Region.wanted o (yielded ops a.tmps)then o.wp P a w K Q\/(o.asks P a w/\LetsOut Q)else K (a.put o.dst undef) w:=by
 obtain⟨b1,a1,T⟩:=qD b0;have I:∀{ws:List (Nat×Blk)} {π':List (Option PB)},(∀j,(∀b,(j,b)∉ws)->π'[j]?=π[j]?)->∀j,j∉fC ws->π'[j]?=π[j]?:=by
  intro ws π' hk j hj;refine hk j fun b S=>hj ?_
  simp only[fC,List.mem_map];exact⟨_,S,rfl⟩
 have a6:ef ops.toList o D.slots=ef ops.toList o z.slots:=yn hs;have a7:∀x∈o.op.operands.toList,evA z.slots x=evA D.slots x:=by
  intro x hx;refine(yE fun t ht=>?_).symm;subst ht;exact hs t (by simp only[fx,List.mem_append];exact .inl (xY hx))
 unfold lO at h;split at h
 ·rename_i hw;rw[<-a6]at hw;rw[if_pos (nO C.slots hw)];refine .inl ?_;unfold Oper.wp;have N:∀r,evalOp P (evA z.slots) z.heap z.heap.length o=some r->((∀b∈rm z.heap (evA z.slots) o,D.heap[b]?=z.heap[b]?)\/((∃t m k,o.op=.lookup t m k false)/\∀r,evalOp P (evA z.slots) z.heap z.heap.length o=some r->evalOp P (evA z.slots) D.heap z.heap.length o=some r))->evalOp P (evA D.slots) D.heap z.heap.length o=some r:=by
   intro r hr S;rw[<-xE a7];rcases S with S|⟨_,S⟩
   ·rw[<-hr];exact(Ar fun b hm=>(S b hm).symm).symm
   ·exact S r hr
  split at h
  ·rename_i v R;rw[fN]at h;cases h;have J:=N _ R hh;rcases xJ J with⟨_,_,_,e1,_⟩|O
   ·cases e1
   obtain⟨nx,u,h1,h2,Z⟩:=lH U C.inv (Nat.le_refl _) (sY C.inv) (nC C.slots) (O D.heap.length);rw[h1];rcases h2 with rfl|⟨rfl,rfl⟩
   ·exact hK _ _ π (Rep.ext C.defers C.slots (Ext.refl _ _ _) C.inv Z) (Ext.refl _ _ _) fun _ _=>rfl
   ·exact hK _ _ π (Rep.ext C.defers C.slots (Ext.refl _ _ _) C.inv Z) (Ext.refl _ _ _) fun _ _=>rfl
  ·rename_i v ws R;rw[fN]at h;cases h;have J:=N _ R hh;have:∃n,n<=D.heap.length/\(∀q,π[n]?≠some (some q))/\evalOp P (evA D.slots) D.heap n o=some (.eff v ws):=by
    rcases xJ J with⟨_,_,y,e1,h0⟩|O
    ·cases e1;refine⟨z.heap.length,by simp only at hle;omega,E _ ?_ (Nat.le_refl _),J⟩;simp only[fC,List.mem_map];exact⟨_,h0,rfl⟩
    ·exact⟨D.heap.length,Nat.le_refl _,sY C.inv,O _⟩
   obtain⟨n,hn,hf,a8⟩:=this;obtain⟨nx,u,w',π',h1,h2,Z,h4,h5,h6⟩:=lH U C.inv hn hf (nC C.slots) a8;rw[h1];rcases h2 with rfl|⟨rfl,rfl⟩
   ·exact hK _ _ π' (Rep.ext C.defers C.slots Z h4 h5) Z (I h6)
   ·exact hK _ _ π' (Rep.ext C.defers C.slots Z h4 h5) Z (I h6)
  ·rename_i f args R;have J:evalOp P (evA D.slots) D.heap D.heap.length o=some (.call f args):=by
    have e1:evalOp P (evA D.slots) z.heap z.heap.length o=some (.call f args):=by rw[<-xE a7];exact R
    unfold evalOp at e1 ⊢;cases ho:o.op<;>simp only[ho]at e1 ⊢
    case call c=>
     unfold wx at e1 ⊢;cases hc:c.callee<;>simp only[hc]at e1 ⊢
     case value g=>exact e1
     case builtin b=>
      exfalso;unfold om at e1;split at e1
      ·split at e1
       ·split at e1
        ·cases e1
        ·unfold ct.ofP at e1;split at e1<;>cases e1
       ·cases e1
      ·split at e1
       ·split at e1
        ·split at e1
         ·split at e1
          ·unfold kE at e1;split at e1
           ·cases e1
           ·split at e1
            ·split at e1<;>cases e1
            ·split at e1<;>cases e1
            ·split at e1
             ·split at e1<;>cases e1
             ·split at e1<;>cases e1
             ·cases e1
            ·split at e1
             ·split at e1
              ·split at e1<;>cases e1
              ·cases e1
             ·cases e1
            ·cases e1
          ·cases e1
         ·cases e1
        ·split at e1
         ·unfold vb at e1;(repeat' split at e1)<;>cases e1
         ·cases e1
        ·cases e1
       ·cases e1
      ·split at e1
       ·split at e1
        ·split at e1
         ·unfold xW at e1;(repeat' split at e1)<;>cases e1
         ·cases e1
        ·cases e1
       ·cases e1
      ·split at e1
       ·split at e1
        ·split at e1
         ·unfold tO at e1;(repeat' split at e1)<;>cases e1
         ·cases e1
        ·cases e1
       ·cases e1
      ·split at e1
       ·split at e1<;>cases e1
       ·cases e1
      ·split at e1
       ·split at e1<;>cases e1
       ·cases e1
      ·split at e1
       ·split at e1<;>cases e1
       ·cases e1
      ·cases e1
     case invoke=>cases e1
    case makeFunc fn fs cs=>exfalso;cases fn<;>simp[nV]at e1
    case slice t x lo hi mx=>
     exfalso;cases mx with
     |some m=>simp[nV]at e1
     |none=>simp only[uP,ct.ofP]at e1;(repeat' split at e1)<;>cases e1
    case makeMap t r=>
     exfalso;simp only[nV,qw]at e1;(repeat' split at e1)<;>cases e1
    case lookup t x ix ok=>
     exfalso;simp only[nV,ct.ofP]at e1;(repeat' split at e1)<;>cases e1
    case mapUpdate t m k x=>
     exfalso;simp only[nV,jz]at e1;(repeat' split at e1)<;>cases e1
    case insert t m k x=>
     exfalso;simp only[nV,jz]at e1;(repeat' split at e1)<;>cases e1
    case mapEntry t m k=>
     exfalso;simp only[nV,nN]at e1;(repeat' split at e1)<;>cases e1
    case entryStore t m k x=>
     exfalso;simp only[nV,mK]at e1;(repeat' split at e1)<;>cases e1
    case range t x=>
     exfalso;simp only[nV,tp]at e1;(repeat' split at e1)<;>cases e1
    case entry it=>
     exfalso;simp only[nV,nZ]at e1;(repeat' split at e1)<;>cases e1
    all_goals exfalso
    all_goals try simp only[nV,xQ,tl,yV,vn,lF,uM,pH,qH,ml,ct.ofP,Eu]at e1
    all_goals (repeat' split at e1)<;>first|cases e1|skip
   obtain⟨vs,h1,h2⟩:=lH U C.inv (Nat.le_refl _) (sY C.inv) (nC C.slots) J;rw[h1];simp only[Oper.upon];split at h
   ·rename_i v ws rd n hc;rw[fN]at h;cases h;simp only at T a1 hle E;have hh:=hh.resolve_right fun hx=>by
     obtain⟨⟨t,m,k,ht⟩,_⟩:=hx;unfold evalOp at R;rw[ht]at R;simp only[nV,ct.ofP]at R
     (repeat' split at R)<;>cases R
    have:=Y _ _ _ _ hc D.heap hle (fun b S _=>hh b S) out B w π vs.toList C.inv (fun j g1 g2=>E j (by
      have:=T (j-z.heap.length) (by omega);rwa[show z.heap.length+(j-z.heap.length)=j by omega]at this) g1) h2
    rw[Array.toArray_toList]at this;refine this.mono ?_;rintro e b2 ⟨u,π',rfl,g1,g2,g3,g4⟩;exact hK _ _ π' (Rep.ext C.defers C.slots g1 g2 g3) g1 (I g4)
   ·rw[fN]at h;cases h
   ·cases h
  ·cases h
 ·rename_i hw;rw[<-a6]at hw;rw[nO C.slots hw];simp only[Bool.false_eq_true,if_false];rw[fN]at h;cases h;exact hK _ _ π (Rep.ext C.defers C.slots (Ext.refl _ _ _) C.inv rfl) (Ext.refl _ _ _) fun _ _=>rfl
 ·cases h
theorem getD_set_true{l:Array Bool}{i j:Nat}(hi:i<l.size):(l.setIfInBounds i true).getD j false=(l.getD j false||decide (j=i)):=by
 simp only[Array.getD_eq_getD_getElem?,Array.getElem?_setIfInBounds];by_cases h:i=j
 ·subst h;simp[hi]
 ·have q:¬j=i:=fun e=>h e.symm
  simp[h,q]
theorem getD_none{n:Nat}(i:Nat):(Array.replicate n false).getD i false=false:=by
 rw[Array.getD_eq_getD_getElem?,Array.getElem?_replicate];split<;>rfl
theorem EY{l:Array Bool}{i:Nat}(h:l.getD i true=false):i<l.size/\l.getD i false=false:=by
 rw[Array.getD_eq_getD_getElem?]at h ⊢;cases j:l[i]? with
 |none=>rw[j]at h;simp at h
 |some x=>rw[j]at h;exact⟨(Array.getElem?_eq_some_iff.1 j).1,by simpa using h⟩
theorem yM{ops:List Oper}{a b:Ent}{j:List Ent}(h:tC ops a b j=true):a.ws=[]/\uo a.o.dst.toList (fx ops b.o)=true/\uo a.o.dst.toList b.o.dst.toList=true/\uo b.o.dst.toList (fx ops a.o)=true:=by
 unfold tC at h;split at h
 ·simp only[Bool.and_eq_true]at h;obtain⟨⟨⟨⟨⟨_,q⟩,z⟩,C⟩,D⟩,_⟩:=h;exact⟨List.isEmpty_iff.1 q,z,C,D⟩
 ·cases h
theorem vp{ops:List Oper}{es:List Ent}(C:pL ops (uC [] ops) es es 0=true){i j:Nat}{a b:Ent}(N:i<j)(O:es[i]?=some a)(R:es[j]?=some b)
  (hm:(∃x,x∈fC a.ws/\(x∈b.rd\/x∈fC b.ws))\/(∃t,t∈a.o.dst.toList/\(t∈fx ops b.o\/t∈b.o.dst.toList))\/(∃t,t∈b.o.dst.toList/\t∈fx ops a.o)):
  ((uC [] ops).getD j 0).testBit i=true:=by
 have:=(pM es 0 j i a b C R (by omega) O).1;rw[Nat.zero_add]at this;rcases this with h|h|h
 ·exact h
 ·exfalso;simp only[Ah,Bool.and_eq_true]at h;obtain⟨⟨⟨⟨⟨h1,I⟩,J⟩,S⟩,T⟩,Y⟩:=h;rcases hm with⟨x,E,D|D⟩|⟨t,z,q|q⟩|⟨t,z,q⟩
  ·exact lX S E D
  ·exact lX T E D
  ·exact lX h1 z q
  ·exact lX I z q
  ·exact lX J z q
 ·exfalso;obtain⟨U,h1,I,J⟩:=yM h;rcases hm with⟨x,E,_⟩|⟨t,z,q|q⟩|⟨t,z,q⟩
  ·rw[U]at E;simp[fC]at E
  ·exact lX h1 z q
  ·exact lX I z q
  ·exact lX J z q
theorem DA{ops:List Oper}{es:List Ent}(q:pL ops (uC [] ops) es es 0=true){i j:Nat}{a b:Ent}(z:i<j)(C:es[i]?=some a)(D:es[j]?=some b){x:Nat}(E:x∈fC b.ws)(I:x∈a.rd):
  ((uC [] ops).getD j 0).testBit i=true\/tC ops a b ((es.take j).drop (i+1))=true:=by
 have:=(pM es 0 j i a b q D (by omega) C).1;rw[Nat.zero_add]at this;rcases this with h|h|h
 ·exact .inl h
 ·exfalso;simp only[Ah,Bool.and_eq_true]at h;exact lX h.2 E I
 ·exact .inr h
theorem yQ:∀(l:List Value),uE l=true->rr l l=some true
 |[],_=>rfl
 |.int k x::l,h=>by
  have hk:IntKind.tJ k k=true\/IntKind.tJ k k=false:=by cases IntKind.tJ k k<;>simp
  have hk:IntKind.tJ k k=true:=by cases k<;>first|rfl|(simp[uE]at h;done)
  simp only[rr,hk,yQ l (by simpa [uE]using h)];simp
theorem D0{P:Program}{t:TypeId}{k:Value}(h:ko P t k=true):kEq k k=some true:=by
 unfold ko at h;split at h
 ·rename_i q j n hu;have hk:IntKind.tJ j j=true:=by
   have:=IntKind.pZ h;subst this;exact h
  simp[kEq,hk]
 ·simp[kEq]
 ·rename_i d a _;have:uE a.toList=true:=by
   unfold oL at h;split at h
   ·simp only[Bool.and_eq_true]at h;exact h.2
   ·simp only[Bool.and_eq_true]at h;exact h.1.2
   ·cases h
  simp only[kEq,yQ _ this]
 ·cases h
theorem FQ{k v:Value}(h:kEq k v=some true):v=k:=by
 unfold kEq at h;split at h
 ·rename_i a b;obtain⟨h1,_⟩:=wm _ _ h;rw[Array.toList_inj.1 h1]
 ·split at h
  ·rename_i j;have e:=IntKind.pZ j;subst e;simp only[Option.some.injEq,beq_iff_eq]at h;rw[h]
  ·cases h
 ·simp only[Option.some.injEq,beq_iff_eq]at h;rw[h]
 ·cases h
theorem wJ{k:Value}:∀(es:List (Value×AV)) (i0 i:Nat) (A:AV),mG k es i0=some (some (i,A))->∃j,i=i0+j/\es[j]?=some (k,A)
 |[],_,_,_,h=>by simp[mG]at h
 |(k',z)::es,i0,i,A,h=>by
  simp only[mG]at h;split at h
  ·rename_i hk;cases h;exact⟨0,rfl,by rw[FQ hk];rfl⟩
  ·obtain⟨j,h1,q⟩:=wJ es (i0+1) i A h;exact⟨j+1,by omega,by simpa using q⟩
  ·cases h
theorem yj{k:Value}{z:AV}(hk:kEq k k=some true):∀(es:List (Value×AV)) (i0:Nat),mG k es i0=some none->mG k (es++[(k,z)]) i0=some (some (i0+es.length,z))
 |[],i0,_=>by simp[mG,hk]
 |(k',j)::es,i0,h=>by
  simp only[mG]at h;simp only[List.cons_append,mG];split at h
  ·cases h
  ·rw[yj hk es (i0+1) h];congr 3;simp;omega
  ·cases h
theorem Ap{P:Program}{H H':List Blk}{t:TypeId}{x k:AV}{A:AV}(D:gF P H t x k false=some A){b:Nat}(Z:x=.mp b){H1:List Blk}(h1:H1[b]?=H[b]?){v:AV}{ws:List (Nat×Blk)}(he:nN P H1 t x k=some (.eff v ws)):
  ∃X,ws=[(b,X)]/\(H'[b]?=some X->gF P H' t x k false=some A):=by
 subst Z;unfold nN at he;unfold gF at D;have hm:lL H1 (.mp b)=lL H (.mp b):=by simp only[lL,h1]
 rw[hm]at he;split at D
 ·rename_i kt e b' es kv hu C E;obtain⟨a1,rfl⟩:H[b]?=some (.map es)/\b'=b:=by
   simp only[lL]at C;split at C
   ·rename_i es' R;cases C;exact⟨R,rfl⟩
   ·cases C
  rw[hu,C,E]at he;simp only at he;split at D
  ·rename_i z i T hk J I;rw[hk,J,I]at he;simp only at he;cases he;refine⟨_,rfl,fun O=>?_⟩;obtain⟨j,U,Y⟩:=wJ es 0 i T I;have N:es.set i (kv,T)=es:=by
    rw[Nat.zero_add]at U;subst U;apply List.ext_getElem?;intro q;rw[List.getElem?_set];split
    ·rename_i hq;subst hq;rw[if_pos (List.getElem?_eq_some_iff.1 Y).1,Y]
    ·rfl
   rw[N]at O;simp only[gF,hu,lL,O,E,hk,J,I];exact D
  ·rename_i z hk J I;rw[hk,J,I]at he;simp only at he;cases he;refine⟨_,rfl,fun O=>?_⟩;have S:=yj (z:=z) (D0 hk) es 0 I;simp only[gF,hu,lL,O,E,hk,J,S];exact D
  ·cases D
 ·cases D
theorem Bm{P:Program}(o7:zA P)(hm:P.follows .mixedOrders=true){call:gi}(j3:lB P call){ops:Array Oper}{id:Nat}{st st':St}(h:kX P call ops.toList true st=some st')
  {out:Nat->Prop} {B:Nat->Prop} {w:World} {π:List (Option PB)} {a:Act} (hR:Rep out B w π st a) {Q:Exit->Act->World->Prop}
  (hQ:∀a' w' π',Rep out B w' π' st' a'->Ext B w w' (aY out π st.heap) (aY out π' st'.heap) π π'->Q .normal a' w'):(Code.region id ops true).wp P Q a w:=by
 unfold kX at h;simp only at h;split at h
 ·rename_i r6 es o8;split at h
  ·rename_i l4;cases h;simp only[Bool.and_eq_true]at l4;obtain⟨a8,b1⟩:=l4;obtain⟨L,c0⟩:∃L,L=st'.heap.length:=⟨_,rfl⟩;obtain⟨t1,t2,t3,t4,t5⟩:=wK (L:=L) ops.toList st st' es o8 (by omega);rw[<-c0]at t3;obtain⟨D,a6⟩:∃D:St,D=⟨st.slots,pad L st.heap⟩:=⟨_,rfl⟩;have E:D.heap.length=L:=by rw[a6];exact rh (by omega)
   obtain⟨j4,l5⟩:=hR.inv.same (w':={w with drawn:=w.drawn+1}) rfl rfl rfl rfl (fun _=>Nat.le_succ _);obtain⟨j5,e5⟩:=l5.extend (L-st.heap.length);obtain⟨π0,hπ0⟩:∃π0,π0=π++List.replicate (L-st.heap.length) none:=⟨_,rfl⟩;rw[<-hπ0]at j5 e5;have o9:Rep out B {w with drawn:=w.drawn+1} π0 D a:=by
    rw[a6];exact⟨hR.defers,RvL.ext e5 _ _ (RvL.ext j4 _ _ hR.slots),j5⟩
   have c3:∀b,st.heap.length<=b->∀q,π0[b]?≠some (some q):=by
    intro b J q hq;have:=hR.inv.len;rw[hπ0,List.getElem?_append_right (by omega)]at hq;have:=List.mem_of_getElem? hq;simp at this
   have l6:Ext B w {w with drawn:=w.drawn+1} (aY out π st.heap) (aY out π0 D.heap) π π0:=by rw[a6];exact j4.trans e5
   clear e5 j4 l5 j5;refine wp_region_any hm ?_;have key:∀(fuel:Nat) (C:Array Bool) (a:Act) (w1:World) (π1:List (Option PB)),C.size=ops.size->((List.range ops.size).countP fun i=>!C.getD i false)=fuel->
     (∀(j:Nat) (o:Oper),ops.toList[j]?=some o->C.getD j false=true->∀e∈o.after.toList,Region.binds .any e=true->C.getD e.on false=true)->
     Rep out B w1 π1 (dk es (fun j=>C.getD j false) 0 D) a->
     Ext B w w1 (aY out π st.heap) (aY out π1 (dk es (fun j=>C.getD j false) 0 D).heap) π π1->
     (∀b,st.heap.length<=b->(∀(j:Nat) (e:Ent),es[j]?=some e->C.getD j false=true->b∉fC e.ws)->∀q,π1[b]?≠some (some q))->
     wpAny P .any ops Q fuel C a w1:=by
    intro fuel;induction fuel with
    |zero=>
     intro C a w1 π1 l7 b2 b6 e6 e7 j6;have j0:∀i,i<ops.size->C.getD i false=true:=by
      intro i hi;rw[List.countP_eq_zero]at b2;have:=b2 i (by simpa using hi);simpa using this
     have c4:dk es (fun j=>C.getD j false) 0 D=st':=by
      have e1:dk es (fun j=>C.getD j false) 0 D=dk es (fun _=>true) 0 D:=by
       have hs:∀(j:Nat) (e:Ent),es[j]?=some e->C.getD (0+j) false=true:=fun j e he=>by
        rw[Nat.zero_add];exact j0 j (by have:=aW he;rw[t2]at this;simpa using this)
       have l1:=oU es (fun j=>C.getD j false) 0 D t3 E;have l2:=oU es (fun _=>true) 0 D t3 E;have j7:(dk es (fun j=>C.getD j false) 0 D).slots=(dk es (fun _=>true) 0 D).slots:=
        List.ext_getElem? fun t=>jQ es _ _ 0 D D rfl rfl fun j e he _=>hs j e he
       have j8:(dk es (fun j=>C.getD j false) 0 D).heap=(dk es (fun _=>true) 0 D).heap:=
        List.ext_getElem? fun b=>jT es _ _ 0 D D t3 E E rfl fun j e he _=>hs j e he
       cases hA:dk es (fun j=>C.getD j false) 0 D;cases hB:dk es (fun _=>true) 0 D;rw[hA,hB]at j7 j8;simp only at j7 j8;rw[j7,j8]
      rw[e1,a6,t4,c0,DE]
     refine⟨?_,?_⟩
     ·unfold Region.ready;rw[List.filter_eq_nil_iff];intro i hi;have p1:i<ops.size:=by simpa using hi
      have h1:=j0 i p1;have h2:C.getD i true=true:=by
       rw[Array.getD_eq_getD_getElem?]at h1 ⊢;cases hl:C[i]? with
       |none=>rfl
       |some x=>rw[hl]at h1;simpa using h1
      simp[h2]
     ·rw[c4]at e6 e7;exact hQ a w1 π1 e6 e7
    |succ fuel ih=>
     intro C a w1 π1 l7 b2 b6 e6 e7 j6;refine⟨?_,?_⟩
     ·
      intro l8;exfalso;have hex:∃i,i<ops.size/\C.getD i false=false:=by
       have j1:0<(List.range ops.size).countP fun i=>!C.getD i false:=by omega
       rw[List.countP_pos_iff]at j1;obtain⟨i,h1,h2⟩:=j1;exact⟨i,by simpa using h1,by simpa using h2⟩
      have l9:∃i,i<ops.size/\C.getD i false=false/\∀k,k<i->C.getD k false=true:=by
       obtain⟨i,h1,h2⟩:=hex;induction i using Nat.strongRecOn with
       |_ i p2=>
        by_cases hk:∃k,k<i/\C.getD k false=false
        ·obtain⟨k,k1,k2⟩:=hk;exact p2 k k1 (by omega) k2
        ·exact⟨i,h1,h2,fun k p3=>by
          cases hv:C.getD k false with
          |true=>rfl
          |false=>exact(hk ⟨k,p3,hv⟩).elim⟩
      obtain⟨i,h1,h2,h3⟩:=l9;have Z:i∈Region.ready .any ops C:=by
       unfold Region.ready;rw[List.mem_filter];refine⟨by simpa using h1,?_⟩;have O:i<C.size:=by omega
       have e1:C.getD i true=false:=by
        rw[Array.getD_eq_getD_getElem?]at h2 ⊢;rw[Array.getElem?_eq_getElem O]at h2 ⊢;simpa using h2
       have e2:ops[i]?=some ops[i]:=Array.getElem?_eq_getElem h1;rw[e1,e2];simp only[Bool.not_false,Bool.true_and,Option.map_some,Option.getD_some,Array.all_eq_true'];intro e he;cases J:Region.binds .any e with
       |false=>rfl
       |true=>
        have:=sF ops.toList 0 i ops[i] a8 (by simp[h1]) e (by simpa using he) J;simp only[Bool.not_true,Bool.false_or];exact h3 _ (by omega)
      rw[l8]at Z;cases Z
     ·intro i hi;unfold Region.ready at hi;rw[List.mem_filter]at hi;obtain⟨c5,e8⟩:=hi;have c5:i<ops.size:=by simpa using c5
      simp only[Bool.and_eq_true,Bool.not_eq_true']at e8;obtain⟨e8,j9⟩:=e8;obtain⟨a7,S⟩:=EY e8;obtain⟨o,ho⟩:∃o,ops[i]?=some o:=⟨ops[i],Array.getElem?_eq_getElem c5⟩;have k0:ops.toList[i]?=some o:=by rw[Array.getElem?_toList];exact ho
      rw[ho]at j9;simp only[Option.map_some,Option.getD_some,Array.all_eq_true']at j9;have c6:∀e∈o.after.toList,Region.binds .any e=true->C.getD e.on false=true:=by
       intro e he J;have:=j9 e (by simpa using he);simpa [J]using this
      obtain⟨e,he⟩:∃e,es[i]?=some e:=by
       have:i<es.length:=by rw[t2];simpa using c5
       exact⟨es[i],geT this⟩
      obtain⟨o2,I,st1,g1,g2,g3,g4,g5,g6,g7,g8⟩:=t5 i e he;rw[k0]at g1;cases g1;subst g4;have T:∀j b,j<i->es[j]?=some b->((∃x,x∈fC b.ws/\(x∈e.rd\/x∈fC e.ws))\/(∃t,t∈b.o.dst.toList/\(t∈fx ops.toList e.o\/t∈e.o.dst.toList))\/(∃t,t∈e.o.dst.toList/\t∈fx ops.toList b.o))->
        C.getD j false=true:=by
       intro j b hj J k3;have b3:=vp b1 hj J he k3;exact se a8 (s:=fun j=>C.getD j false) b6 i e.o k0 c6 j b3
      have N:∀j b,i<j->es[j]?=some b->((∃x,x∈fC e.ws/\(x∈b.rd\/x∈fC b.ws))\/(∃t,t∈e.o.dst.toList/\(t∈fx ops.toList b.o\/t∈b.o.dst.toList))\/(∃t,t∈b.o.dst.toList/\t∈fx ops.toList e.o))->
        C.getD j false=false:=by
       intro j b hj J k3;have b3:=vp b1 hj he J k3;cases hv:C.getD j false with
       |false=>rfl
       |true=>
        have b4:j<ops.toList.length:=by rw[<-t2];exact aW J
        have:=se a8 (s:=fun j=>C.getD j false) b6 j ops.toList[j] (geT b4) (b6 j _ (geT b4) hv) i b3;rw[this]at S;cases S
      have c7:=oU es (fun j=>C.getD j false) 0 D t3 E;have R:dk es (fun j=>decide (j<0+i)) 0 D=⟨I.slots,pad L I.heap⟩:=by rw[um,a6,g8]
      have e9:∀t∈fx ops.toList e.o,(dk es (fun j=>C.getD j false) 0 D).slots[t]?=I.slots[t]?:=by
       intro t ht;have:=jQ (t:=t) es (fun j=>C.getD j false) (fun j=>decide (j<0+i)) 0 D D rfl rfl (fun j b J hw=>by
        simp only[Nat.zero_add];rcases Nat.lt_trichotomy j i with O|rfl|U
        ·rw[T j b O J (.inr (.inl ⟨t,hw,.inl ht⟩))];simp[O]
        ·rw[S];simp
        ·rw[N j b U J (.inr (.inr ⟨t,hw,ht⟩))];simp;omega)
       rw[this,R]
      have k4:=(qD g3).1;have b5:∀j b,i<j->es[j]?=some b->∀x,x∈fC b.ws->x∈e.rd->C.getD j false=false\/tC ops.toList e b ((es.take j).drop (i+1))=true:=by
       intro j b hj J x hx hr;rcases DA b1 hj he J hx hr with b3|hs
       ·left;cases hv:C.getD j false with
        |false=>rfl
        |true=>
         have b4:j<ops.toList.length:=by rw[<-t2];exact aW J
         have:=se a8 (s:=fun j=>C.getD j false) b6 j ops.toList[j] (geT b4) (b6 j _ (geT b4) hv) i b3;rw[this]at S;cases S
       ·exact .inr hs
      have k5:(∀b∈e.rd,(dk es (fun j=>C.getD j false) 0 D).heap[b]?=I.heap[b]?)\/((∃t m k,e.o.op=.lookup t m k false)/\∀r,evalOp P (evA I.slots) I.heap I.heap.length e.o=some r->evalOp P (evA I.slots) (dk es (fun j=>C.getD j false) 0 D).heap I.heap.length e.o=some r):=by
       by_cases hex:∃j b,i<j/\es[j]?=some b/\C.getD j false=true/\tC ops.toList e b ((es.take j).drop (i+1))=true
       ·right;obtain⟨j,b,b8,J,p4,Y⟩:=hex;obtain⟨sw,p5,r7,r8⟩:=yM Y;unfold tC at Y;split at Y
        ·rename_i t m k t' m' k' c8 j2;simp only[Bool.and_eq_true]at Y;obtain⟨⟨⟨⟨⟨⟨⟨⟨⟨q1,q2⟩,q3⟩,q4⟩,q5⟩,_⟩,_⟩,_⟩,_⟩,qm⟩:=Y;obtain rfl:=Nat.eq_of_beq_eq_true q1;obtain rfl:=Nat.eq_of_beq_eq_true q2;obtain rfl:=Nat.eq_of_beq_eq_true q3;refine⟨⟨_,_,_,c8⟩,fun r hr=>?_⟩;have c9:∀q c,i<q->q<j->es[q]?=some c->(∀x∈fC c.ws,x∉e.rd)/\m∉c.o.dst.toList/\k∉c.o.dst.toList:=by
          intro q c h1 h2 hc;have Z:c∈(es.take j).drop (i+1):=by
           refine List.mem_of_getElem? (i:=q-(i+1)) ?_;rw[List.getElem?_drop,show i+1+(q-(i+1))=q by omega,List.getElem?_take,if_pos h2];exact hc
          have:=List.all_eq_true.1 qm c Z;simp only[Bool.and_eq_true,Bool.not_eq_true']at this;obtain⟨⟨h3,h4⟩,h5⟩:=this;exact⟨fun x hx=>lX h3 hx,by simpa using h4,by simpa using h5⟩
         obtain⟨o3,sj,r9,f1,f2,f3,f4,f5,f6,f7,f8⟩:=t5 j b J;have n0:dk es (fun q=>decide (q<0+j)) 0 D=⟨sj.slots,pad L sj.heap⟩:=by rw[um,a6,f8]
         have p6:∀y∈b.o.op.operands.toList,∀t,y=.tmp t->t∈fx ops.toList b.o:=fun y hy t ht=>by
          subst ht;simp only[fx,List.mem_append];exact .inl (xY hy)
         have p7:∀y,y∈[m,k]->I.slots[y]?=sj.slots[y]?:=by
          intro y hy;have p8:y∈fx ops.toList b.o:=p6 (.tmp y) (by rw[j2];simp[Op.operands]at hy ⊢;rcases hy with h|h<;>simp[h]) y rfl;have:=jQ (t:=y) es (fun q=>decide (q<0+i)) (fun q=>decide (q<0+j)) 0 D D rfl rfl (fun q c hc hw=>by
           simp only[Nat.zero_add];rcases Nat.lt_trichotomy q i with O|rfl|U
           ·simp[O,Nat.lt_trans O b8]
           ·rw[he]at hc;cases hc;exact(lX p5 hw p8).elim
           ·by_cases e4:q<j
            ·obtain⟨_,z1,z2⟩:=c9 q c U e4 hc;simp at hy;rcases hy with h|h
             ·exact(z1 (h▸hw)).elim
             ·exact(z2 (h▸hw)).elim
            ·simp;omega)
          rw[R,n0]at this;exact this
         have n1:∀y,y∈[m,k]->evA sj.slots (.tmp y)=evA I.slots (.tmp y):=fun y hy=>(yE fun t ht=>by cases ht;exact p7 y hy).symm
         have eo:∀(ρ:Operand->AV) (H:List Blk) (nid:Nat),evalOp P ρ H nid e.o=ct.ofP (gF P H t (ρ (.tmp m)) (ρ (.tmp k)) false):=fun ρ H nid=>by
          unfold evalOp;rw[c8];rfl
         rw[eo]at hr ⊢;cases a1:gF P I.heap t (evA I.slots (.tmp m)) (evA I.slots (.tmp k)) false with
         |none=>rw[a1]at hr;cases hr
         |some A=>
          rw[a1]at hr;obtain⟨b0,k6⟩:∃b0,evA I.slots (.tmp m)=.mp b0:=by
           unfold gF lL at a1;split at a1
           ·rename_i n3 _;split at n3
            ·exact⟨_,by assumption⟩
            ·cases n3
           ·cases a1
          have g1:e.o.guard=none:=by simpa using q4
          have p9:b.o.guard=none:=by simpa using q5
          have b9:e.rd=[b0]:=by
           have h0:=g2;unfold lO at h0;have hw:ef ops.toList e.o I.slots=some true:=by unfold ef;rw[g1]
           rw[hw]at h0;simp only[eo,a1,ct.ofP]at h0;rw[fN]at h0;have h0:=congrArg (fun z=>(z.bind fun w=>w.2).map (·.rd)) h0;simp only[Option.bind_some,Option.map_some,Option.some.injEq]at h0;rw[<-h0];unfold rm;rw[c8];simp only[k6,eL]
          have k7:b0<I.heap.length:=by
           have:=(qD g3).1 b0 (by rw[b9];simp);exact this
          have b7:sj.heap[b0]?=I.heap[b0]?:=by
           have:=jT (b:=b0) es (fun q=>decide (q<0+i)) (fun q=>decide (q<0+j)) 0 D D t3 E E rfl (fun q c hc hw=>by
            simp only[Nat.zero_add];rcases Nat.lt_trichotomy q i with O|rfl|U
            ·simp[O,Nat.lt_trans O b8]
            ·rw[he]at hc;cases hc;rw[sw]at hw;simp[fC]at hw
            ·by_cases e4:q<j
             ·exact((c9 q c U e4 hc).1 b0 hw (by rw[b9];simp)).elim
             ·simp;omega)
           rw[R,n0]at this;simp only at this;rw[zp k7]at this;have n4:b0<sj.heap.length:=by
            by_cases hc:sj.heap.length<=b0
            ·exfalso;have h9:(pad L sj.heap)[b0]?=some .dead:=by
              have q9:b0<L:=by omega
              simp only[pad,jw];rw[List.getElem?_append_right hc,List.getElem?_replicate,if_pos (by omega)]
             rw[h9]at this;unfold gF at a1;rw[k6]at a1;simp only[lL,this]at a1
             (repeat' split at a1)<;>simp_all
            ·omega
           rw[zp n4]at this;exact this.symm
          have h0:=f2;rw[<-f4]at h0;unfold lO at h0;have hw:ef ops.toList b.o sj.slots=some true:=by unfold ef;rw[p9]
          have eb:evalOp P (evA sj.slots) sj.heap sj.heap.length b.o=nN P sj.heap t (evA sj.slots (.tmp m)) (evA sj.slots (.tmp k)):=by
           unfold evalOp;rw[j2];rfl
          rw[hw]at h0;simp only[eb,n1 m (by simp),n1 k (by simp)]at h0;split at h0
          ·rename_i v hv;unfold nN at hv;(repeat' split at hv)<;>cases hv
          ·rename_i v ws hv;rw[fN]at h0;have k8:=congrArg (fun z=>(z.bind fun w=>w.2).map (·.ws)) h0;simp only[Option.bind_some,Option.map_some,Option.some.injEq]at k8;obtain⟨X,hX,c4⟩:=Ap (H':=(dk es (fun j=>C.getD j false) 0 D).heap) a1 k6 b7 hv;rw[c4 ?_]
           ·exact hr
           have n5:b0∈fC b.ws:=by rw[<-k8,hX];simp[fC]
           have n9:=mL (b:=b0) es (fun q=>decide (q<0+i)) 0 j D b t3 E J (by simp;omega) n5 (fun q c hq hc hw=>by simp;omega);have h6:=jT (b:=b0) es (fun j=>C.getD j false) (fun q=>decide (q<0+i)||decide (q=0+j)) 0 D D t3 E E rfl (fun q c hc hw=>by
            simp only[Nat.zero_add];rcases Nat.lt_trichotomy q i with O|rfl|U
            ·rw[T q c O hc (.inl ⟨b0,hw,.inl (by rw[b9];simp)⟩)];simp[O]
            ·rw[he]at hc;cases hc;rw[sw]at hw;simp[fC]at hw
            ·by_cases e4:q=j
             ·subst e4;rw[p4];simp
             ·have hf:C.getD q false=false:=by
               rcases b5 q c U hc b0 hw (by rw[b9];simp)with h|h
               ·exact h
               ·exfalso;rcases Nat.lt_or_ge q j with h1|h1
                ·exact(c9 q c U h1 hc).1 b0 hw (by rw[b9];simp)
                ·have Z:b∈(es.take q).drop (i+1):=by
                  refine List.mem_of_getElem? (i:=j-(i+1)) ?_;rw[List.getElem?_drop,show i+1+(j-(i+1))=j by omega,List.getElem?_take,if_pos (by omega)];exact J
                 unfold tC at h;split at h
                 ·simp only[Bool.and_eq_true]at h;have h2:=List.all_eq_true.1 h.2 b Z;simp only[Bool.and_eq_true]at h2;exact lX h2.1.1 n5 (by rw[b9];simp)
                 ·cases h
              rw[hf];simp;omega)
           rw[h6,n9,R,<-k8,hX];simp only[bj];rw[hU (by have:=rh (H:=I.heap) (L:=L) (by omega);omega),if_pos rfl]
          ·rename_i f as hv;unfold nN at hv;(repeat' split at hv)<;>cases hv
          ·cases h0
        ·cases Y
       ·left;intro b J;have:=jT (b:=b) es (fun j=>C.getD j false) (fun j=>decide (j<0+i)) 0 D D t3 E E rfl (fun j x hx hw=>by
         simp only[Nat.zero_add];rcases Nat.lt_trichotomy j i with O|rfl|U
         ·rw[T j x O hx (.inl ⟨b,hw,.inl J⟩)];simp[O]
         ·rw[S];simp
         ·have hf:C.getD j false=false:=by
           rcases b5 j x U hx b hw J with h|h
           ·exact h
           ·cases hv:C.getD j false with
            |false=>rfl
            |true=>exact(hex ⟨j,x,U,hx,hv,h⟩).elim
          rw[hf];simp;omega)
        rw[this,R];exact zp (k4 b J)
      have h7:∀b∈fC e.ws,I.heap.length<=b->∀q,π1[b]?≠some (some q):=by
       intro b J s0;refine j6 b (by omega) fun j x hx hl k9=>?_
       rcases Nat.lt_trichotomy j i with O|rfl|U
       ·have:=(pM es 0 i j x e b1 he (by omega) hx).2;simp only[fC,List.mem_map]at k9;obtain⟨p,hp,rfl⟩:=k9;have:=this p hp;omega
       ·rw[S]at hl;cases hl
       ·rw[N j x U hx (.inl ⟨b,J,.inr k9⟩)]at hl;cases hl
      have l0:I.heap.length+e.n<=L:=by
       rcases Nat.eq_zero_or_pos e.n with h0|h0
       ·omega
       ·have h1:=(qD g3).2.2 (e.n-1) (by omega);have h2:=t3 e (List.mem_of_getElem? he) _ h1;omega
      have h8:fH e (dk es (fun j=>C.getD j false) 0 D)=dk es (fun j=>(C.setIfInBounds i true).getD j false) 0 D:=by
       have o0:(fun j=>(C.setIfInBounds i true).getD j false)=fun j=>C.getD j false||decide (j=0+i):=by
        funext j;rw[getD_set_true a7,Nat.zero_add]
       rw[o0];have q0:∀x∈fC e.ws,x<L:=t3 e (List.mem_of_getElem? he);have e1:(dk es (fun j=>C.getD j false||decide (j=0+i)) 0 D).slots=iL (dk es (fun j=>C.getD j false) 0 D).slots e.o.dst e.v:=by
        refine List.ext_getElem? fun t=>?_
        by_cases ht:t∈e.o.dst.toList
        ·exact pA es (fun j=>C.getD j false) 0 i D e he (by simpa using S) ht fun j b b8 J hw=>by
          rw[Nat.zero_add];exact N j b b8 J (.inr (.inl ⟨t,ht,.inr hw⟩))
        ·rw[ua ht];refine jQ es _ _ 0 D D rfl rfl fun j b J hw=>?_
         have:¬0+j=0+i:=by
          intro e0;obtain rfl:j=i:=by omega
          rw[he]at J;cases J;exact ht hw
         rw[decide_eq_false this,Bool.or_false]
       have e2:(dk es (fun j=>C.getD j false||decide (j=0+i)) 0 D).heap=bj (dk es (fun j=>C.getD j false) 0 D).heap e.ws:=by
        refine List.ext_getElem? fun b=>?_
        by_cases J:b∈fC e.ws
        ·exact mL es (fun j=>C.getD j false) 0 i D e t3 E he (by simpa using S) J fun j x b8 hx hw=>by
          rw[Nat.zero_add];exact N j x b8 hx (.inl ⟨b,J,.inr hw⟩)
        ·rw[oM _ _ (by rw[c7.1];exact q0) J];refine jT es _ _ 0 D D t3 E E rfl fun j x hx hw=>?_
         have:¬0+j=0+i:=by
          intro e0;obtain rfl:j=i:=by omega
          rw[he]at hx;cases hx;exact J hw
         rw[decide_eq_false this,Bool.or_false]
       unfold fH;cases hF:dk es (fun j=>C.getD j false||decide (j=0+i)) 0 D;rw[hF]at e1 e2;simp only at e1 e2;rw[e1,e2]
      unfold wpOp;rw[ho];simp only;refine BQ o7 j3 g2 g3 (by rw[c7.1];exact l0) e9 k5 e6 h7 fun a' w' π' o1 o4 q6=>?_
      rw[h8]at o1 o4;refine ih (C.setIfInBounds i true) a' w' π' (by simpa using l7) ?_ ?_ o1 (e7.trans o4) ?_
      ·have s3:((List.range ops.size).countP fun j=>!C.getD j false)=((List.range ops.size).countP fun j=>!(C.setIfInBounds i true).getD j false)+1:=by
        have gen:∀(l:List Nat),l.Nodup->i∈l->(l.countP fun j=>!C.getD j false)=(l.countP fun j=>!(C.setIfInBounds i true).getD j false)+1:=by
         intro l;induction l with
         |nil=>intro _ h;cases h
         |cons x l q7=>
          intro l3 Z;rw[List.nodup_cons]at l3;rw[List.countP_cons,List.countP_cons,getD_set_true a7];by_cases hx:x=i
          ·subst hx;have b7:(l.countP fun j=>!C.getD j false)=l.countP fun j=>!(C.setIfInBounds x true).getD j false:=by
            refine List.countP_congr fun y hy=>?_
            rw[getD_set_true a7];have:¬y=x:=by rintro rfl;exact l3.1 hy
            simp[this]
           rw[b7,S];simp
          ·have:=q7 l3.2 (by
            rcases List.mem_cons.1 Z with e0|e0
            ·exact(hx e0.symm).elim
            ·exact e0)
           rw[this];simp[hx];omega
        exact gen _ List.nodup_range (by simpa using c5)
       omega
      ·intro j oj hj hs e' o5 J;rw[getD_set_true a7]at hs ⊢;rw[Bool.or_eq_true]at hs ⊢;left;rcases hs with hs|hs
       ·exact b6 j oj hj hs e' o5 J
       ·obtain rfl:j=i:=by simpa using hs
        rw[k0]at hj;cases hj;exact c6 e' o5 J
      ·intro b J o6 q hq;have q8:b∉fC e.ws:=o6 i e he (by rw[getD_set_true a7];simp);rw[q6 b q8]at hq;refine j6 b J (fun j x hx hl=>o6 j x hx ?_) q hq;rw[getD_set_true a7,hl];simp
   refine key ops.size (Array.replicate ops.size false) a {w with drawn:=w.drawn+1} π0 (by simp) ?_ ?_ ?_ ?_ ?_
   ·have:∀i,(Array.replicate ops.size false).getD i false=false:=fun i=>getD_none i
    simp only[this,Bool.not_false];simp
   ·intro j o _ hj;have:∀i,(Array.replicate ops.size false).getD i false=false:=fun i=>getD_none i
    rw[this]at hj;cases hj
   ·have:(fun j=>(Array.replicate ops.size false).getD j false)=fun _=>false:=by funext i;exact getD_none i
    rw[this,ui];exact o9
   ·have:(fun j=>(Array.replicate ops.size false).getD j false)=fun _=>false:=by funext i;exact getD_none i
    rw[this,ui];exact l6
   ·intro b J _;exact c3 b J
  ·cases h
 ·cases h
end Go.Eng

