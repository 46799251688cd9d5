import Derived.Test.YtglimpjlhfjgdaaGreatEng8Slds
set_option linter.all false
namespace Go.Eng
open Go Go.RowKit
variable[Dr]
section
variable{P:Program}{out:Nat->Prop}{B:Nat->Prop}
theorem rB(p:rQ P){call:dw}(m:fP P call){ops:Array Oper}{Q:Exit->Act->World->Prop}:∀(l:List Oper) (k:Nat) (st st':St) (w:World) (π:List (Option PB)) (a:Act),(∀j,l[j]?=ops[k+j]?)->
  gj P call ops.toList l st=some st'->Rep out B w π st a->
  (∀a' w' π',Rep out B w' π' st' a'->Ext B w w' (aI out π st.heap) (aI out π' st'.heap) π π'->Q .normal a' w')->wpOps P ops Q (List.range' k l.length) a w
 |[],k,st,st',w,π,a,_,h,C,D=>by
  cases h;exact D a w π C (Ext.refl _ _ _)
 |o::l,k,st,st',w,π,a,N,h,C,D=>by
  simp only[gj]at h;split at h
  ·rename_i st1 T h1;have O:ops[k]?=some o:=by simpa using(N 0).symm
   simp only[List.length_cons,List.range'_succ,wpOps,O];refine AJ p m C h1 (K:=wpOps P ops Q (List.range' (k+1) l.length)) (Q:=Q) fun a' w' π' E I=>?_
   refine rB p m l (k+1) st1 st' w' π' a' (fun j=>?_) h E fun J M π'' q z=>D J M π'' q (I.trans z)
   have:=N (j+1);simpa [Nat.add_assoc,Nat.add_comm 1 j]using this
  ·cases h
end
def dK(ws:List (Nat×Blk)):List Nat:=ws.map (·.1)
theorem iG:∀(ws:List (Nat×Blk)) (h:List Blk),(∀i∈dK ws,i<h.length)->(aN h ws).length=h.length
 |[],_,_=>rfl
 |(i,x)::ws,h,m=>by
  have hi:i<h.length:=m i (by simp[dK]);have e:(upd h i x).length=h.length:=by rw[cz (by omega),if_neg (by omega)]
  rw[aN,iG ws _ (fun j p=>by rw[e];exact m j (by simp[dK]at p ⊢;exact .inr p)),e]
theorem lZ{b:Nat}:∀(ws:List (Nat×Blk)) (h:List Blk),(∀i∈dK ws,i<h.length)->b∉dK ws->(aN h ws)[b]?=h[b]?
 |[],_,_,_=>rfl
 |(i,x)::ws,h,p,q=>by
  have hi:i<h.length:=p i (by simp[dK]);have e:(upd h i x).length=h.length:=by rw[cz (by omega),if_neg (by omega)]
  rw[aN,lZ ws _ (fun j z=>by rw[e];exact p j (by simp[dK]at z ⊢;exact .inr z)) (fun m=>q (by simp[dK]at m ⊢;exact .inr m)),eI (by omega),if_neg];rintro rfl;exact q (by simp[dK])
theorem oN{b:Nat}:∀(ws:List (Nat×Blk)) (h k:List Blk),h.length=k.length->(∀i∈dK ws,i<h.length)->(b∈dK ws\/h[b]?=k[b]?)->(aN h ws)[b]?=(aN k ws)[b]?
 |[],_,_,_,_,m=>by rcases m with m|m;(simp[dK]at m);exact m
 |(i,x)::ws,h,k,hlen,q,m=>by
  have hi:i<h.length:=q i (by simp[dK]);have e1:(upd h i x).length=h.length:=by rw[cz (by omega),if_neg (by omega)]
  have e2:(upd k i x).length=k.length:=by rw[cz (by omega),if_neg (by omega)]
  refine oN ws _ _ (by omega) (fun j z=>by rw[e1];exact q j (by simp[dK]at z ⊢;exact .inr z)) ?_;by_cases p:b=i
  ·right;subst p;rw[eI (by omega),eI (by omega),if_pos rfl,if_pos rfl]
  ·rcases m with m|m
   ·left;simp only[dK,List.map_cons,List.mem_cons]at m ⊢;exact m.resolve_left p
   ·right;rw[eI (by omega),eI (by omega),if_neg p,if_neg p];exact m
theorem na(s:List AV)(d:Option Tmp)(v:AV):(fQ s d v).length=s.length:=by cases d<;>simp[fQ]
theorem sG{s:List AV}{d:Option Tmp}{v:AV}{t:Nat}(h:t∉d.toList):(fQ s d v)[t]?=s[t]?:=by
 cases d with
 |none=>rfl
 |some d=>simp only[fQ];rw[List.getElem?_set,if_neg];rintro rfl;exact h (by simp)
theorem wJ{s r:List AV}{d:Option Tmp}{v:AV}{t:Nat}(m:s.length=r.length)(h:t∈d.toList\/s[t]?=r[t]?):(fQ s d v)[t]?=(fQ r d v)[t]?:=by
 cases d with
 |none=>rcases h with h|h;(simp at h);exact h
 |some d=>
  simp only[fQ];rw[List.getElem?_set,List.getElem?_set,m];split
  ·rfl
  ·rename_i j;rcases h with h|h
   ·simp at h;exact(j h.symm).elim
   ·exact h
def dQ(e:Ent)(st:St):St:=⟨fQ st.slots e.o.dst e.v,aN st.heap e.ws⟩
def bO:List Ent->(Nat->Bool)->Nat->St->St
 |[],_,_,st=>st
 |e::es,s,k,st=>bO es s (k+1) (if s k then dQ e st else st)
def Below(L:Nat)(es:List Ent):Prop:=∀e∈es,∀i∈dK e.ws,i<L
theorem mj{L:Nat}:∀(es:List Ent) (s:Nat->Bool) (k:Nat) (st:St),Below L es->st.heap.length=L->(bO es s k st).heap.length=L/\(bO es s k st).slots.length=st.slots.length
 |[],_,_,_,_,h=>⟨h,rfl⟩
 |e::es,s,k,st,j,h=>by
  simp only[bO];split
  ·have h1:=mj es s (k+1) (dQ e st) (fun x m=>j x (by simp[m])) (by rw[dQ];simp only;rw[iG _ _ (by rw[h];exact j e (by simp)),h]);exact⟨h1.1,by rw[h1.2];simp[dQ,na]⟩
  ·exact mj es s (k+1) st (fun x m=>j x (by simp[m])) h
theorem ib{L b:Nat}:∀(es:List Ent) (s r:Nat->Bool) (k:Nat) (st q:St),Below L es->st.heap.length=L->q.heap.length=L->st.heap[b]?=q.heap[b]?->
  (∀(j:Nat) (e:Ent),es[j]?=some e->b∈dK e.ws->s (k+j)=r (k+j))->(bO es s k st).heap[b]?=(bO es r k q).heap[b]?
 |[],_,_,_,_,_,_,_,_,h,_=>h
 |e::es,s,r,k,st,q,E,h1,h2,h,hs=>by
  have m:=E e (by simp);have z:Below L es:=fun x I=>E x (by simp[I])
  have C:∀(j:Nat) (D:Ent),es[j]?=some D->b∈dK D.ws->s (k+1+j)=r (k+1+j):=fun j D J M=>by
   have:=hs (j+1) D (by simpa using J) M;simpa [Nat.add_assoc,Nat.add_comm 1 j]using this
  have l1:(dQ e st).heap.length=L:=by simp only[dQ];rw[iG _ _ (by rw[h1];exact m),h1]
  have l2:(dQ e q).heap.length=L:=by simp only[dQ];rw[iG _ _ (by rw[h2];exact m),h2]
  simp only[bO];by_cases p:b∈dK e.ws
  ·have:=hs 0 e rfl p;simp only[Nat.add_zero]at this;rw[this];split
   ·exact ib es s r (k+1) _ _ z l1 l2 (oN _ _ _ (by omega) (by rw[h1];exact m) (.inl p)) C
   ·exact ib es s r (k+1) _ _ z h1 h2 h C
  ·have N:(dQ e st).heap[b]?=st.heap[b]?:=lZ _ _ (by rw[h1];exact m) p;have O:(dQ e q).heap[b]?=q.heap[b]?:=lZ _ _ (by rw[h2];exact m) p;split<;>split<;>refine ib es s r (k+1) _ _ z (by assumption) (by assumption) ?_ C<;>simp only[N,O,h]
theorem gY{t:Nat}:∀(es:List Ent) (s r:Nat->Bool) (k:Nat) (st p:St),st.slots.length=p.slots.length->st.slots[t]?=p.slots[t]?->
  (∀(j:Nat) (e:Ent),es[j]?=some e->t∈e.o.dst.toList->s (k+j)=r (k+j))->(bO es s k st).slots[t]?=(bO es r k p).slots[t]?
 |[],_,_,_,_,_,_,h,_=>h
 |e::es,s,r,k,st,p,C,h,hs=>by
  have q:∀(j:Nat) (z:Ent),es[j]?=some z->t∈z.o.dst.toList->s (k+1+j)=r (k+1+j):=fun j z D E=>by
   have:=hs (j+1) z (by simpa using D) E;simpa [Nat.add_assoc,Nat.add_comm 1 j]using this
  have l1:(dQ e st).slots.length=st.slots.length:=na _ _ _;have l2:(dQ e p).slots.length=p.slots.length:=na _ _ _;simp only[bO];by_cases m:t∈e.o.dst.toList
  ·have:=hs 0 e rfl m;simp only[Nat.add_zero]at this;rw[this];split
   ·exact gY es s r (k+1) _ _ (by omega) (wJ C (.inl m)) q
   ·exact gY es s r (k+1) _ _ C h q
  ·have I:(dQ e st).slots[t]?=st.slots[t]?:=sG m;have J:(dQ e p).slots[t]?=p.slots[t]?:=sG m;split<;>split<;>refine gY es s r (k+1) _ _ (by omega) ?_ q<;>simp only[I,J,h]
theorem ke{L b:Nat}:∀(es:List Ent) (s:Nat->Bool) (k i:Nat) (st:St) (e:Ent),Below L es->st.heap.length=L->es[i]?=some e->s (k+i)=false->b∈dK e.ws->
  (∀(j:Nat) (p:Ent),i<j->es[j]?=some p->b∈dK p.ws->s (k+j)=false)->
  (bO es (fun j=>s j||decide (j=k+i)) k st).heap[b]?=(aN (bO es s k st).heap e.ws)[b]?
 |[],_,_,_,_,_,_,_,h,_,_,_=>by simp at h
 |e0::es,s,k,0,st,e,I,D,h,hs,E,m=>by
  simp only[List.getElem?_cons_zero,Option.some.injEq]at h;subst h;have z:=I e0 (by simp);have C:Below L es:=fun x M=>I x (by simp[M])
  simp only[Nat.add_zero]at hs;simp only[bO,Nat.add_zero,hs,Bool.false_eq_true,if_false,decide_true,Bool.false_or,if_true];have hlen:=(mj es s (k+1) st C D).1;have l1:(dQ e0 st).heap.length=L:=by simp only[dQ];rw[iG _ _ (by rw[D];exact z),D]
  have N:∀(r:Nat->Bool) (q:St),q.heap.length=L->(∀(j:Nat) (p:Ent),es[j]?=some p->b∈dK p.ws->r (k+1+j)=false)->(bO es r (k+1) q).heap[b]?=q.heap[b]?:=by
   intro r q J U;have:=ib (b:=b) es r (fun _=>false) (k+1) q q C J J rfl (fun j p h1 h2=>U j p h1 h2);rw[this];clear this;have O:∀(es:List Ent) (k:Nat) (q:St),bO es (fun _=>false) k q=q:=by
    intro es;induction es with
    |nil=>intro _ _;rfl
    |cons x es Y=>intro k q;simp[bO,Y]
   rw[O]
  have T:∀(j:Nat) (p:Ent),es[j]?=some p->b∈dK p.ws->s (k+1+j)=false:=fun j p h1 h2=>by
   have:=m (j+1) p (by omega) (by simpa using h1) h2;simpa [Nat.add_assoc,Nat.add_comm 1 j]using this
  rw[N _ _ l1 (fun j p h1 h2=>by simp[T j p h1 h2];omega)];refine oN _ _ _ (by omega) (by rw[D];exact z) (.inl E)
 |e0::es,s,k,i+1,st,e,I,D,h,hs,E,m=>by
  have z:=I e0 (by simp);have C:Below L es:=fun x M=>I x (by simp[M])
  simp only[bO];have hk:decide (k=k+(i+1))=false:=by simp
  simp only[hk,Bool.or_false];have l1:(if s k then dQ e0 st else st).heap.length=L:=by
   split
   ·simp only[dQ];rw[iG _ _ (by rw[D];exact z),D]
   ·exact D
  have:=ke es s (k+1) i (if s k then dQ e0 st else st) e C l1 (by simpa using h) (by rw[<-hs];congr 1;omega) E (fun j p h0 h1 h2=>by
   have:=m (j+1) p (by omega) (by simpa using h1) h2;rw[<-this];congr 1;omega)
  rw[<-this];simp only[show k+1+i=k+(i+1)by omega]
theorem sf:∀(es:List Ent) (k:Nat) (j:St),bO es (fun _=>false) k j=j:=by
 intro es;induction es with
 |nil=>intro _ _;rfl
 |cons x es m=>intro k j;simp[bO,m]
theorem lC:∀(es:List Ent) (s:Nat->Bool) (k:Nat) (st:St),(bO es s k st).slots.length=st.slots.length
 |[],_,_,_=>rfl
 |e::es,s,k,st=>by
  simp only[bO];split
  ·rw[lC es s (k+1) (dQ e st)];exact na _ _ _
  ·exact lC es s (k+1) st
theorem mG{t:Nat}:∀(es:List Ent) (s:Nat->Bool) (k i:Nat) (st:St) (e:Ent),es[i]?=some e->s (k+i)=false->t∈e.o.dst.toList->
  (∀(j:Nat) (p:Ent),i<j->es[j]?=some p->t∈p.o.dst.toList->s (k+j)=false)->
  (bO es (fun j=>s j||decide (j=k+i)) k st).slots[t]?=(fQ (bO es s k st).slots e.o.dst e.v)[t]?
 |[],_,_,_,_,_,h,_,_,_=>by simp at h
 |e0::es,s,k,0,st,e,h,hs,q,m=>by
  simp only[List.getElem?_cons_zero,Option.some.injEq]at h;subst h;simp only[Nat.add_zero]at hs;simp only[bO,Nat.add_zero,hs,Bool.false_eq_true,if_false,decide_true,Bool.false_or,if_true];have C:∀(r:Nat->Bool) (z:St),(∀(j:Nat) (p:Ent),es[j]?=some p->t∈p.o.dst.toList->r (k+1+j)=false)->(bO es r (k+1) z).slots[t]?=z.slots[t]?:=by
   intro r z E;rw[gY (t:=t) es r (fun _=>false) (k+1) z z rfl rfl (fun j p h1 h2=>E j p h1 h2),sf]
  have D:∀(j:Nat) (p:Ent),es[j]?=some p->t∈p.o.dst.toList->s (k+1+j)=false:=fun j p h1 h2=>by
   have:=m (j+1) p (by omega) (by simpa using h1) h2;simpa [Nat.add_assoc,Nat.add_comm 1 j]using this
  rw[C _ _ (fun j p h1 h2=>by simp[D j p h1 h2];omega)];exact wJ (by rw[lC]) (.inl q)
 |e0::es,s,k,i+1,st,e,h,hs,q,m=>by
  simp only[bO];have hk:decide (k=k+(i+1))=false:=by simp
  simp only[hk,Bool.or_false];have:=mG es s (k+1) i (if s k then dQ e0 st else st) e (by simpa using h) (by rw[<-hs];congr 1;omega) q (fun j p I h1 h2=>by
   have:=m (j+1) p (by omega) (by simpa using h1) h2;rw[<-this];congr 1;omega)
  rw[<-this];simp only[show k+1+i=k+(i+1)by omega]
end Go.Eng


namespace Go.Eng
open Go Go.RowKit
variable[Dr]
theorem AX{H:List Blk}{nid n by_:Nat}{s x:AV}{r:bj}(h:iM H nid n by_ s x=some r):
  (∃v ws y,r=.eff v ws/\(nid,y)∈ws)\/∀j,iM H j n by_ s x=some r:=by
 unfold iM at h;split at h
 ·cases h
 ·rename_i new m q;split at h
  ·split at h
   ·cases h;exact .inl ⟨_,_,_,rfl,by simp;rfl⟩
   ·cases h
  ·split at h
   ·rename_i p;cases h;refine .inr fun j=>?_
    simp only[iM,q,p]
   ·cases h
  ·split at h
   ·split at h
    ·cases h;exact .inl ⟨_,_,_,rfl,by simp;exact .inr rfl⟩
    ·cases h
   ·split at h
    ·cases h;exact .inl ⟨_,_,_,rfl,by simp;exact .inr rfl⟩
    ·cases h
   ·cases h
  ·split at h
   ·rename_i hH;split at h
    ·rename_i p;split at h
     ·rename_i z;cases h;refine .inr fun j=>?_
      simp only[iM,q,hH,p,z]
     ·cases h;exact .inl ⟨_,_,_,rfl,by simp;rfl⟩
    ·cases h
   ·cases h
  ·cases h
theorem zb{P:Program}{H:List Blk}{nid:Nat}{b:Builtin}{at_:Array TypeId}{ty:TypeId}{args:List AV}{r:bj}(h:ln P H nid b at_ ty args=some r):
  (∃v ws y,r=.eff v ws/\(nid,y)∈ws)\/∀j,ln P H j b at_ ty args=some r:=by
 cases b
 case append=>
  match args with
  |[s,x]=>
   simp only[ln]at h ⊢;cases h1:at_[0]? with
   |none=>simp[h1]at h
   |some t=>
    cases h2:at_[1]? with
    |none=>simp[h1,h2]at h
    |some p=>
     simp only[h1,h2]at h ⊢;split at h
     ·split at h
      ·split at h
       ·rename_i n z by_ _ _ _ _ _;rcases AX h with m|m
        ·exact .inl m
        ·refine .inr fun j=>?_
         exact m j
       ·cases h
      ·cases h
     ·split at h
      ·unfold tY at h;split at h
       ·split at h
        ·cases h;exact .inl ⟨_,_,_,rfl,by simp;rfl⟩
        ·cases h
       ·cases h
      ·cases h
     ·cases h
  |[]=>exact .inr fun _=>h
  |[_]=>exact .inr fun _=>h
  |_::_::_::_=>exact .inr fun _=>h
 all_goals (refine .inr fun _=>?_;rcases args with _|⟨x,_|⟨y,_|⟨z,l⟩⟩⟩<;>exact h)
theorem wQ{P:Program}{ρ:Operand->AV}{H:List Blk}{nid:Nat}{o:Oper}{r:bj}(h:evalOp P ρ H nid o=some r):
  (∃v ws x,r=.eff v ws/\(nid,x)∈ws)\/∀j,evalOp P ρ H j o=some r:=by
 unfold evalOp at h;unfold evalOp;cases m:o.op<;>simp only[m,rh,yA,je,jL,uA,lq]at h ⊢
 case alloc t=>
  split at h
  ·split at h
   ·cases h;exact .inl ⟨_,_,_,rfl,by simp;rfl⟩
   ·cases h
  ·cases h
 case box t x=>
  split at h
  ·cases h;exact .inl ⟨_,_,_,rfl,by simp;rfl⟩
  ·cases h
 case buildSlice t n ps=>
  split at h
  ·split at h
   ·split at h
    ·split at h
     ·cases h;exact .inl ⟨_,_,_,rfl,by simp;rfl⟩
     ·cases h
    ·cases h
   ·cases h
  ·cases h
 case makeSlice t l c=>
  split at h
  ·split at h
   ·split at h
    ·cases h;exact .inl ⟨_,_,_,rfl,by simp;rfl⟩
    ·cases h
   ·cases h
  ·cases h
 case makeMap t r=>
  unfold oF at h;split at h
  ·cases h;exact .inl ⟨_,_,_,rfl,by simp;rfl⟩
  ·split at h
   ·cases h;exact .inl ⟨_,_,_,rfl,by simp;rfl⟩
   ·cases h
 case range t x=>
  unfold kH at h;split at h
  ·cases h;exact .inl ⟨_,_,_,rfl,by simp;rfl⟩
  ·cases h
 case makeFunc fn p cs=>cases fn<;>first|exact .inr fun _=>h|exact .inr fun _=>by simpa using h
 case slice t x q hi mx=>cases mx<;>first|exact .inr fun _=>h|exact .inr fun _=>by simpa using h
 case call c=>
  cases hc:c.callee<;>simp only[hc]at h ⊢
  case value f=>exact .inr fun _=>h
  case builtin b=>exact zb h
  case invoke=>cases h
 all_goals exact .inr fun _=>h
def pad(L:Nat)(H:List Blk):List Blk:=H++gK (L-H.length)
theorem oT{L:Nat}{H:List Blk}(h:H.length<=L):(pad L H).length=L:=by simp[pad,gK];omega
theorem zd{L b:Nat}{H:List Blk}(h:b<H.length):(pad L H)[b]?=H[b]?:=by simp only[pad];rw[List.getElem?_append_left h]
theorem Fh{H:List Blk}:pad H.length H=H:=by simp[pad,gK]
theorem DT{L n:Nat}{H:List Blk}(h:H.length+n<=L):pad L (H++gK n)=pad L H:=by
 simp only[pad,gK,List.length_append,List.length_replicate,List.append_assoc,List.replicate_append_replicate];rw[show n+(L-(H.length+n))=L-H.length by omega]
theorem Gz{L i:Nat}{H:List Blk}{x:Blk}(hi:i<=H.length)(z:(upd H i x).length<=L):pad L (upd H i x)=upd (pad L H) i x:=by
 have q:=cz (x:=x) hi;by_cases he:i=H.length
 ·subst he;rw[if_pos rfl]at q;have j:H.length<(pad L H).length:=by rw[oT (by omega)];omega
  unfold upd;rw[if_neg (by omega),if_pos j];simp only[pad,gK,List.length_append,List.length_singleton];rw[List.set_append_right _ _ (Nat.le_refl _),Nat.sub_self];obtain⟨m,hm⟩:∃m,L-H.length=m+1:=⟨L-H.length-1,by omega⟩;rw[hm,show L-(H.length+1)=m by omega,List.replicate_succ,List.set_cons_zero];simp
 ·have j:i<H.length:=by omega
  rw[if_neg he]at q;have p:i<(pad L H).length:=by rw[oT (by omega)];omega
  unfold upd;rw[if_pos j,if_pos p];simp only[pad,List.length_set];rw[List.set_append_left _ _ j]
theorem sr{L:Nat}:∀(ws:List (Nat×Blk)) (H:List Blk),(∀i∈dK ws,i<=H.length)->(aN H ws).length<=L->
  pad L (aN H ws)=aN (pad L H) ws/\H.length<=(aN H ws).length/\∀i∈dK ws,i<(aN H ws).length
 |[],H,_,_=>⟨rfl,Nat.le_refl _,by simp[dK]⟩
 |(i,x)::ws,H,hi,z=>by
  have p:i<=H.length:=hi i (by simp[dK]);have C:=cz (x:=x) p;have q:H.length<=(upd H i x).length:=by rw[C];split<;>omega
  have hgt:i<(upd H i x).length:=by rw[C];split<;>omega
  obtain⟨h1,h2,D⟩:=sr ws (upd H i x) (fun j m=>Nat.le_trans (hi j (by simp[dK]at m ⊢;exact .inr m)) q) z;refine⟨?_,Nat.le_trans q h2,?_⟩
  ·rw[aN,h1,aN,Gz p (Nat.le_trans h2 z)]
  ·intro j m;simp only[dK,List.map_cons,List.mem_cons]at m;rcases m with rfl|m
   ·exact Nat.lt_of_lt_of_le hgt h2
   ·exact D j m
theorem oq{len:Nat}{e:Ent}(h:lT len e=true):(∀b∈e.rd,b<len)/\(∀i∈dK e.ws,i<=len+e.n/\(0<e.n->i<len+e.n))/\(∀j,j<e.n->len+j∈dK e.ws):=by
 simp only[lT,Bool.and_eq_true,List.all_eq_true,decide_eq_true_eq]at h;obtain⟨h1,h2⟩:=h;refine⟨h1,?_,?_⟩
 ·intro i hi;simp only[dK,List.mem_map]at hi;obtain⟨p,hp,rfl⟩:=hi;cases m:e.n with
  |zero=>simp only[m,List.all_eq_true,decide_eq_true_eq]at h2;exact⟨by have:=h2 p hp;omega,by omega⟩
  |succ n=>simp only[m,Bool.and_eq_true,List.all_eq_true,decide_eq_true_eq]at h2;have:=h2.1 p hp;omega
 ·intro j q;cases m:e.n with
  |zero=>omega
  |succ n=>
   simp only[m,Bool.and_eq_true,List.all_eq_true,decide_eq_true_eq]at h2;have:=h2.2 j (by simp;omega);simpa [dK]using this
theorem DU{P:Program}{call:dw}{ops:List Oper}{o:Oper}{st st1:St}{e:Ent}{L:Nat}(h:ju P call ops o st=some (st1,some e))(m:lT st.heap.length e=true)(p:st1.heap.length<=L):
  e.o=o/\e.nid=st.heap.length/\st.heap.length<=st1.heap.length/\(∀i∈dK e.ws,i<st1.heap.length)/\dQ e ⟨st.slots,pad L st.heap⟩=⟨st1.slots,pad L st1.heap⟩:=by
 obtain⟨_,j,_⟩:=oq m;unfold ju at h;split at h
 ·split at h
  ·rename_i v z;rw[dS]at h;cases h;exact⟨rfl,rfl,Nat.le_refl _,by simp[dK],rfl⟩
  ·rename_i v ws z;rw[dS]at h;cases h;obtain⟨h1,h2,q⟩:=sr (L:=L) ws st.heap (fun i hi=>by have:=(j i hi).1;simpa using this) p;exact⟨rfl,rfl,h2,q,by simp only[dQ,h1]⟩
  ·split at h
   ·rename_i f args _ v ws rd n hc;rw[dS]at h;cases h;simp only at j p;obtain⟨h1,h2,q⟩:=sr (L:=L) ws (st.heap++gK n) (fun i hi=>by have:=(j i hi).1;simp[gK];omega) p;have C:(st.heap++gK n).length=st.heap.length+n:=by simp[gK]
    have hle:st.heap.length+n<=L:=by omega
    refine⟨rfl,rfl,by simp only;omega,q,?_⟩;simp only[dQ];rw[h1,DT hle]
   ·rw[dS]at h;cases h
   ·cases h
  ·cases h
 ·rw[dS]at h;cases h;exact⟨rfl,rfl,Nat.le_refl _,by simp[dK],rfl⟩
 ·cases h
theorem kA:∀(es:List Ent) (k j:Nat) (st:St),bO es (fun _=>true) k st=bO es (fun _=>true) j st
 |[],_,_,_=>rfl
 |e::es,k,j,st=>by simp only[bO,if_true];exact kA es _ _ _
theorem vb{P:Program}{call:dw}{ops:List Oper}{L:Nat}:∀(rest:List Oper) (st st':St) (es:List Ent),fi P call ops rest st=some (st',es)->st'.heap.length<=L->
  st.heap.length<=st'.heap.length/\es.length=rest.length/\Below st'.heap.length es/\bO es (fun _=>true) 0 ⟨st.slots,pad L st.heap⟩=⟨st'.slots,pad L st'.heap⟩/\
  ∀(j:Nat) (e:Ent),es[j]?=some e->∃o m st1,rest[j]?=some o/\ju P call ops o m=some (st1,some e)/\lT m.heap.length e=true/\e.o=o/\e.nid=m.heap.length/\st.heap.length<=m.heap.length/\
   m.heap.length<=L/\bO (es.take j) (fun _=>true) 0 ⟨st.slots,pad L st.heap⟩=⟨m.slots,pad L m.heap⟩
 |[],st,st',es,h,E=>by
  cases h;exact⟨Nat.le_refl _,rfl,by simp[Below],rfl,by simp⟩
 |o::rest,st,st',es,h,E=>by
  simp only[fi]at h;split at h
  ·rename_i st1 e h1;split at h
   ·rename_i st2 p q h2;cases h;obtain⟨i1,i2,i3,i4,i5⟩:=vb rest st1 st' p h2 E;obtain⟨J,M,O,N,I⟩:=DU (L:=L) h1 q (by omega);refine⟨by omega,by simp[i2],?_,?_,?_⟩
    ·intro x z i hi;rcases List.mem_cons.1 z with rfl|z
     ·exact Nat.lt_of_lt_of_le (N i hi) i1
     ·exact i3 x z i hi
    ·simp only[bO,if_true];rw[I,kA p (0+1) 0,i4]
    ·intro j x C;cases j with
     |zero=>
      simp at C;subst C;exact⟨o,st,st1,rfl,h1,q,J,M,Nat.le_refl _,by omega,rfl⟩
     |succ j=>
      obtain⟨o',m,D,g1,g2,g3,g4,g5,g6,g7,g8⟩:=i5 j x (by simpa using C);refine⟨o',m,D,by simpa using g1,g2,g3,g4,g5,by omega,g7,?_⟩;simp only[List.take_succ_cons,bO,if_true];rw[I,kA _ (0+1) 0,g8]
   ·cases h
  ·cases h
theorem sc:∀(es:List Ent) (i k:Nat) (st:St),bO es (fun j=>decide (j<k+i)) k st=bO (es.take i) (fun _=>true) k st
 |[],i,k,st=>by simp[bO]
 |e::es,0,k,st=>by
  have:∀(es:List Ent) (m:Nat) (st:St),k<=m->bO es (fun j=>decide (j<k+0)) m st=st:=by
   intro es;induction es with
   |nil=>intro _ _ _;rfl
   |cons x es p=>intro m st hm;simp only[bO];rw[if_neg (by simp;omega)];exact p (m+1) st (by omega)
  rw[this _ k st (Nat.le_refl _)];rfl
 |e::es,i+1,k,st=>by
  simp only[bO,List.take_succ_cons,if_true];rw[if_pos (by simp)];have:=sc es i (k+1) (dQ e st);rw[<-this];congr 1;funext j;congr 1;simp only[eq_iff_iff];omega
end Go.Eng


namespace Go.Eng
open Go Go.RowKit
variable[Dr]
theorem nO(acc:List Nat)(i:Nat):∀(l:List Edge) (s:Nat),(l.foldl (fun s e=>if Region.binds .any e then s ||| (2^e.on ||| acc.getD e.on 0)else s) s).testBit i=true->
  s.testBit i=true\/∃e∈l,Region.binds .any e=true/\(e.on=i\/(acc.getD e.on 0).testBit i=true)
 |[],_,h=>.inl h
 |e::l,s,h=>by
  simp only[List.foldl_cons]at h;rcases nO acc i l _ h with h|⟨m,h1,h2⟩
  ·split at h
   ·rename_i j;simp only[Nat.testBit_or,Bool.or_eq_true]at h;rcases h with h|h|h
    ·exact .inl h
    ·refine .inr ⟨e,by simp,j,.inl ?_⟩;rw[Nat.testBit_two_pow]at h;simpa using h
    ·exact .inr ⟨e,by simp,j,.inr h⟩
   ·exact .inl h
  ·exact .inr ⟨m,by simp[h1],h2⟩
theorem qv:∀(l:List Oper) (acc:List Nat) (j:Nat),j<acc.length->(rU acc l)[j]?=acc[j]?
 |[],_,_,_=>rfl
 |o::l,acc,j,h=>by
  rw[rU,qv l _ j (by simp;omega),List.getElem?_append_left h]
theorem AU:∀(l:List Oper) (acc:List Nat) (j:Nat) (o:Oper),l[j]?=some o->∃m,(rU acc l)[acc.length+j]?=some (vP m o)/\m.length=acc.length+j/\∀k,k<m.length->(rU acc l)[k]?=m[k]?
 |[],_,_,_,h=>by simp at h
 |o::l,acc,0,o',h=>by
  simp at h;subst h;refine⟨acc,?_,rfl,fun k hk=>qv (o::l) acc k hk⟩;rw[rU,qv l _ _ (by simp)];simp
 |o::l,acc,j+1,o',h=>by
  obtain⟨m,h1,h2,p⟩:=AU l (acc++[vP acc o]) j o' (by simpa using h);refine⟨m,?_,by simp at h2;omega,fun k hk=>by rw[rU];exact p k hk⟩;rw[rU];simpa [Nat.add_assoc,Nat.add_comm 1 j]using h1
theorem pV:∀(l:List Oper) (k j:Nat) (o:Oper),ph l k=true->l[j]?=some o->∀e∈o.after.toList,Region.binds .any e=true->e.on<k+j
 |[],_,_,_,_,h=>by simp at h
 |o::l,k,0,o',hk,h=>by
  simp at h;subst h;simp only[ph,Bool.and_eq_true,List.all_eq_true]at hk;intro e he m;have:=hk.1 e he;simpa [m]using this
 |o::l,k,j+1,o',hk,h=>by
  simp only[ph,Bool.and_eq_true]at hk;intro e he m;have:=pV l (k+1) j o' hk.2 (by simpa using h) e he m;omega
theorem pU{ops:List Oper}(E:ph ops 0=true){s:Nat->Bool}(I:∀(j:Nat) (o:Oper),ops[j]?=some o->s j=true->∀e∈o.after.toList,Region.binds .any e=true->s e.on=true):
  ∀(j:Nat) (o:Oper),ops[j]?=some o->(∀e∈o.after.toList,Region.binds .any e=true->s e.on=true)->∀i,((rU [] ops).getD j 0).testBit i=true->s i=true:=by
 intro j;induction j using Nat.strongRecOn with
 |_ j N=>
  intro o J he i hi;obtain⟨q,h1,h2,O⟩:=AU ops [] j o J;simp only[List.length_nil,Nat.zero_add]at h1 h2;rw[List.getD_eq_getElem?_getD,h1]at hi;simp only[Option.getD_some,vP]at hi;rcases nO q i _ _ hi with h|⟨e,z,C,m⟩
  ·simp at h
  ·have D:=he e z C;rcases m with rfl|m
   ·exact D
   ·have M:e.on<j:=by have:=pV ops 0 j o E J e z C;omega
    cases p:ops[e.on]? with
    |none=>
     have:=List.getElem?_eq_none_iff.1 p;have:=(List.getElem?_eq_some_iff.1 J).1;omega
    |some o'=>
     refine N e.on M o' p (I e.on o' p D) i ?_;rw[List.getD_eq_getElem?_getD,O e.on (by omega),<-List.getD_eq_getElem?_getD];exact m
theorem sX{ops:List Oper}{b:Ent}{m:Nat}:∀(l:List Ent) (k i:Nat) (a:Ent),qc ops b m l k=true->l[i]?=some a->(m.testBit (k+i)=true\/Ac ops a b=true\/rD ops a b (l.drop (i+1))=true)/\∀p∈a.ws,p.1<b.nid
 |[],_,_,_,_,h=>by simp at h
 |x::l,k,0,a,j,h=>by
  simp at h;subst h;simp only[qc,Bool.and_eq_true,Bool.or_eq_true,List.all_eq_true,decide_eq_true_eq]at j;exact⟨by simpa [or_assoc]using j.1.1,j.1.2⟩
 |x::l,k,i+1,a,j,h=>by
  simp only[qc,Bool.and_eq_true]at j;have:=sX l (k+1) i a j.2 (by simpa using h);rwa[show k+1+i=k+(i+1)by omega]at this
theorem nj{ops:List Oper}{m:List Nat}{all:List Ent}:∀(l:List Ent) (k j i:Nat) (a b:Ent),nc ops m all l k=true->l[j]?=some b->i<k+j->all[i]?=some a->
  ((m.getD (k+j) 0).testBit i=true\/Ac ops a b=true\/rD ops a b ((all.take (k+j)).drop (i+1))=true)/\∀p∈a.ws,p.1<b.nid
 |[],_,_,_,_,_,_,h,_,_=>by simp at h
 |x::l,k,0,i,a,b,q,h,hi,z=>by
  simp at h;subst h;simp only[nc,Bool.and_eq_true]at q;have:=sX _ 0 i a q.1 (by rw[List.getElem?_take,if_pos (by omega)];exact z);simpa using this
 |x::l,k,j+1,i,a,b,q,h,hi,z=>by
  simp only[nc,Bool.and_eq_true]at q;have:=nj l (k+1) j i a b q.2 (by simpa using h) (by omega) z;rwa[show k+1+j=k+(j+1)by omega]at this
theorem jw{l k:List Nat}(h:se l k=true){x:Nat}(j:x∈l):x∉k:=by
 simp only[se,List.all_eq_true,Bool.not_eq_true',List.contains_eq_mem]at h;have:=h x j;simpa using this
theorem wi{l:List Operand}{t:Tmp}(h:Operand.tmp t∈l):t∈Bp l:=by
 simp only[Bp,List.mem_filterMap];exact⟨_,h,rfl⟩
theorem yi{s r:List AV}{x:Operand}(h:∀t,x=.tmp t->s[t]?=r[t]?):evA s x=evA r x:=by
 cases x with
 |tmp t=>simp only[evA,tT,List.getD_eq_getElem?_getD,h t rfl]
 |_=>rfl
theorem xW{ops:List Oper}{o:Oper}{s r:List AV}(h:∀t∈dG ops o,s[t]?=r[t]?):cH ops o s=cH ops o r:=by
 unfold cH;cases m:o.guard with
 |none=>rfl
 |some g=>
  obtain⟨j,want⟩:=g;simp only;cases p:ops[j]? with
  |none=>rfl
  |some oj=>
   simp only;cases q:oj.dst with
   |none=>rfl
   |some d=>
    simp only;have:s[d]?=r[d]?:=h d (by simp[dG,m,p,q]);simp only[tT,List.getD_eq_getElem?_getD,this]
theorem B3{P:Program}(U:rQ P){call:dw}(Y:fP P call){ops:Array Oper}{o:Oper}{p st1 C:St}{e:Ent}(h:ju P call ops.toList o p=some (st1,some e))(b0:lT p.heap.length e=true)
  (hle:p.heap.length+e.n<=C.heap.length) (hs:∀t∈dG ops.toList o,C.slots[t]?=p.slots[t]?) (hh:(∀b∈e.rd,C.heap[b]?=p.heap[b]?)\/((∃t m k,o.op=.lookup t m k false)/\∀r,evalOp P (evA p.slots) p.heap p.heap.length o=some r->evalOp P (evA p.slots) C.heap p.heap.length o=some r))
  {out:Nat->Prop} {B:Nat->Prop} {w:World} {π:List (Option PB)} {a:Act} (z:Rep out B w π C a) (D:∀b∈dK e.ws,p.heap.length<=b->∀q,π[b]?≠some (some q))
  {K:Act->World->Prop} {Q:Exit->Act->World->Prop}
  (hK:∀a' w' π',Rep out B w' π' (dQ e C) a'->Ext B w w' (aI out π C.heap) (aI out π' (dQ e C).heap) π π'->(∀j,j∉dK e.ws->π'[j]?=π[j]?)->K a' w'):
  if Region.wanted o (yielded ops a.tmps)then o.wp P a w K Q\/(o.asks P a w/\LetsOut Q)else K (a.put o.dst undef) w:=by
 obtain⟨b1,a1,T⟩:=oq b0;have E:∀{ws:List (Nat×Blk)} {π':List (Option PB)},(∀j,(∀b,(j,b)∉ws)->π'[j]?=π[j]?)->∀j,j∉dK ws->π'[j]?=π[j]?:=by
  intro ws π' hk j hj;refine hk j fun b O=>hj ?_
  simp only[dK,List.mem_map];exact⟨_,O,rfl⟩
 have a6:cH ops.toList o C.slots=cH ops.toList o p.slots:=xW hs;have a7:∀x∈o.op.operands.toList,evA p.slots x=evA C.slots x:=by
  intro x hx;refine(yi fun t ht=>?_).symm;subst ht;exact hs t (by simp only[dG,List.mem_append];exact .inl (wi hx))
 unfold ju at h;split at h
 ·rename_i hw;rw[<-a6]at hw;rw[if_pos (kI z.slots hw)];refine .inl ?_;unfold Oper.wp;have J:∀r,evalOp P (evA p.slots) p.heap p.heap.length o=some r->((∀b∈oJ p.heap (evA p.slots) o,C.heap[b]?=p.heap[b]?)\/((∃t m k,o.op=.lookup t m k false)/\∀r,evalOp P (evA p.slots) p.heap p.heap.length o=some r->evalOp P (evA p.slots) C.heap p.heap.length o=some r))->evalOp P (evA C.slots) C.heap p.heap.length o=some r:=by
   intro r hr O;rw[<-vZ a7];rcases O with O|⟨_,O⟩
   ·rw[<-hr];exact(Ba fun b hm=>(O b hm).symm).symm
   ·exact O r hr
  split at h
  ·rename_i v N;rw[dS]at h;cases h;have I:=J _ N hh;rcases wQ I with⟨_,_,_,e1,_⟩|M
   ·cases e1
   obtain⟨nx,u,h1,h2,h3⟩:=ji U z.inv (Nat.le_refl _) (re z.inv) (jb z.slots) (M C.heap.length);rw[h1];rcases h2 with rfl|⟨rfl,rfl⟩
   ·exact hK _ _ π (Rep.ext z.defers z.slots (Ext.refl _ _ _) z.inv h3) (Ext.refl _ _ _) fun _ _=>rfl
   ·exact hK _ _ π (Rep.ext z.defers z.slots (Ext.refl _ _ _) z.inv h3) (Ext.refl _ _ _) fun _ _=>rfl
  ·rename_i v ws N;rw[dS]at h;cases h;have I:=J _ N hh;have:∃n,n<=C.heap.length/\(∀q,π[n]?≠some (some q))/\evalOp P (evA C.slots) C.heap n o=some (.eff v ws):=by
    rcases wQ I with⟨_,_,y,e1,h0⟩|M
    ·cases e1;refine⟨p.heap.length,by simp only at hle;omega,D _ ?_ (Nat.le_refl _),I⟩;simp only[dK,List.mem_map];exact⟨_,h0,rfl⟩
    ·exact⟨C.heap.length,Nat.le_refl _,re z.inv,M _⟩
   obtain⟨n,hn,hf,a8⟩:=this;obtain⟨nx,u,w',π',h1,h2,h3,h4,h5,h6⟩:=ji U z.inv hn hf (jb z.slots) a8;rw[h1];rcases h2 with rfl|⟨rfl,rfl⟩
   ·exact hK _ _ π' (Rep.ext z.defers z.slots h3 h4 h5) h3 (E h6)
   ·exact hK _ _ π' (Rep.ext z.defers z.slots h3 h4 h5) h3 (E h6)
  ·rename_i f args N;have I:evalOp P (evA C.slots) C.heap C.heap.length o=some (.call f args):=by
    have e1:evalOp P (evA C.slots) p.heap p.heap.length o=some (.call f args):=by rw[<-vZ a7];exact N
    unfold evalOp at e1 ⊢;cases ho:o.op<;>simp only[ho]at e1 ⊢
    case call c=>
     unfold uA at e1 ⊢;cases hc:c.callee<;>simp only[hc]at e1 ⊢
     case value g=>exact e1
     case builtin b=>
      exfalso;unfold ln at e1;split at e1
      ·split at e1
       ·split at e1
        ·cases e1
        ·unfold bj.ofP at e1;split at e1<;>cases e1
       ·cases e1
      ·split at e1
       ·split at e1
        ·split at e1
         ·split at e1
          ·unfold iM at e1;split at e1
           ·cases e1
           ·split at e1
            ·split at e1<;>cases e1
            ·split at e1<;>cases e1
            ·split at e1
             ·split at e1<;>cases e1
             ·split at e1<;>cases e1
             ·cases e1
            ·split at e1
             ·split at e1
              ·split at e1<;>cases e1
              ·cases e1
             ·cases e1
            ·cases e1
          ·cases e1
         ·cases e1
        ·split at e1
         ·unfold tY at e1;(repeat' split at e1)<;>cases e1
         ·cases e1
        ·cases e1
       ·cases e1
      ·split at e1
       ·split at e1
        ·split at e1
         ·unfold w9 at e1;(repeat' split at e1)<;>cases e1
         ·cases e1
        ·cases e1
       ·cases e1
      ·split at e1
       ·split at e1
        ·split at e1
         ·unfold rP at e1;(repeat' split at e1)<;>cases e1
         ·cases e1
        ·cases e1
       ·cases e1
      ·split at e1
       ·split at e1<;>cases e1
       ·cases e1
      ·split at e1
       ·split at e1<;>cases e1
       ·cases e1
      ·split at e1
       ·split at e1<;>cases e1
       ·cases e1
      ·cases e1
     case invoke=>cases e1
    case makeFunc fn fs cs=>exfalso;cases fn<;>simp[lq]at e1
    case slice t x lo hi mx=>
     exfalso;cases mx with
     |some m=>simp[lq]at e1
     |none=>simp only[tH,bj.ofP]at e1;(repeat' split at e1)<;>cases e1
    case makeMap t r=>
     exfalso;simp only[lq,oF]at e1;(repeat' split at e1)<;>cases e1
    case lookup t x ix ok=>
     exfalso;simp only[lq,bj.ofP]at e1;(repeat' split at e1)<;>cases e1
    case mapUpdate t m k x=>
     exfalso;simp only[lq,cn]at e1;(repeat' split at e1)<;>cases e1
    case insert t m k x=>
     exfalso;simp only[lq,cn]at e1;(repeat' split at e1)<;>cases e1
    case mapEntry t m k=>
     exfalso;simp only[lq,kO]at e1;(repeat' split at e1)<;>cases e1
    case entryStore t m k x=>
     exfalso;simp only[lq,jU]at e1;(repeat' split at e1)<;>cases e1
    case range t x=>
     exfalso;simp only[lq,kH]at e1;(repeat' split at e1)<;>cases e1
    case entry it=>
     exfalso;simp only[lq,gr]at e1;(repeat' split at e1)<;>cases e1
    all_goals exfalso
    all_goals try simp only[lq,w6,rh,yA,th,je,tE,mF,od,jL,bj.ofP,EM]at e1
    all_goals (repeat' split at e1)<;>first|cases e1|skip
   obtain⟨vs,h1,h2⟩:=ji U z.inv (Nat.le_refl _) (re z.inv) (jb z.slots) I;rw[h1];simp only[Oper.upon];split at h
   ·rename_i v ws rd n hc;rw[dS]at h;cases h;simp only at T a1 hle D;have hh:=hh.resolve_right fun hx=>by
     obtain⟨⟨t,m,k,ht⟩,_⟩:=hx;unfold evalOp at N;rw[ht]at N;simp only[lq,bj.ofP]at N
     (repeat' split at N)<;>cases N
    have:=Y _ _ _ _ hc C.heap hle (fun b O _=>hh b O) out B w π vs.toList z.inv (fun j g1 g2=>D j (by
      have:=T (j-p.heap.length) (by omega);rwa[show p.heap.length+(j-p.heap.length)=j by omega]at this) g1) h2
    rw[Array.toArray_toList]at this;refine this.mono ?_;rintro e b3 ⟨u,π',rfl,g1,g2,g3,g4⟩;exact hK _ _ π' (Rep.ext z.defers z.slots g1 g2 g3) g1 (E g4)
   ·rw[dS]at h;cases h
   ·cases h
  ·cases h
 ·rename_i hw;rw[<-a6]at hw;rw[kI z.slots hw];simp only[Bool.false_eq_true,if_false];rw[dS]at h;cases h;exact hK _ _ π (Rep.ext z.defers z.slots (Ext.refl _ _ _) z.inv rfl) (Ext.refl _ _ _) fun _ _=>rfl
 ·cases h
theorem getD_set_true{l:Array Bool}{i j:Nat}(hi:i<l.size):(l.setIfInBounds i true).getD j false=(l.getD j false||decide (j=i)):=by
 simp only[Array.getD_eq_getD_getElem?,Array.getElem?_setIfInBounds];by_cases h:i=j
 ·subst h;simp[hi]
 ·have m:¬j=i:=fun e=>h e.symm
  simp[h,m]
theorem getD_none{n:Nat}(i:Nat):(Array.replicate n false).getD i false=false:=by
 rw[Array.getD_eq_getD_getElem?,Array.getElem?_replicate];split<;>rfl
theorem Hd{l:Array Bool}{i:Nat}(h:l.getD i true=false):i<l.size/\l.getD i false=false:=by
 rw[Array.getD_eq_getD_getElem?]at h ⊢;cases j:l[i]? with
 |none=>rw[j]at h;simp at h
 |some x=>rw[j]at h;exact⟨(Array.getElem?_eq_some_iff.1 j).1,by simpa using h⟩
theorem ya{ops:List Oper}{a b:Ent}{j:List Ent}(h:rD ops a b j=true):a.ws=[]/\se a.o.dst.toList (dG ops b.o)=true/\se a.o.dst.toList b.o.dst.toList=true/\se b.o.dst.toList (dG ops a.o)=true:=by
 unfold rD at h;split at h
 ·simp only[Bool.and_eq_true]at h;obtain⟨⟨⟨⟨⟨_,m⟩,p⟩,q⟩,z⟩,_⟩:=h;exact⟨List.isEmpty_iff.1 m,p,q,z⟩
 ·cases h
theorem tD{ops:List Oper}{es:List Ent}(q:nc ops (rU [] ops) es es 0=true){i j:Nat}{a b:Ent}(E:i<j)(I:es[i]?=some a)(J:es[j]?=some b)
  (hm:(∃x,x∈dK a.ws/\(x∈b.rd\/x∈dK b.ws))\/(∃t,t∈a.o.dst.toList/\(t∈dG ops b.o\/t∈b.o.dst.toList))\/(∃t,t∈b.o.dst.toList/\t∈dG ops a.o)):
  ((rU [] ops).getD j 0).testBit i=true:=by
 have:=(nj es 0 j i a b q J (by omega) I).1;rw[Nat.zero_add]at this;rcases this with h|h|h
 ·exact h
 ·exfalso;simp only[Ac,Bool.and_eq_true]at h;obtain⟨⟨⟨⟨⟨h1,h2⟩,D⟩,M⟩,N⟩,T⟩:=h;rcases hm with⟨x,C,z|z⟩|⟨t,p,m|m⟩|⟨t,p,m⟩
  ·exact jw M C z
  ·exact jw N C z
  ·exact jw h1 p m
  ·exact jw h2 p m
  ·exact jw D p m
 ·exfalso;obtain⟨O,h1,h2,D⟩:=ya h;rcases hm with⟨x,C,_⟩|⟨t,p,m|m⟩|⟨t,p,m⟩
  ·rw[O]at C;simp[dK]at C
  ·exact jw h1 p m
  ·exact jw h2 p m
  ·exact jw D p m
theorem FX{ops:List Oper}{es:List Ent}(m:nc ops (rU [] ops) es es 0=true){i j:Nat}{a b:Ent}(p:i<j)(q:es[i]?=some a)(z:es[j]?=some b){x:Nat}(C:x∈dK b.ws)(D:x∈a.rd):
  ((rU [] ops).getD j 0).testBit i=true\/rD ops a b ((es.take j).drop (i+1))=true:=by
 have:=(nj es 0 j i a b m z (by omega) q).1;rw[Nat.zero_add]at this;rcases this with h|h|h
 ·exact .inl h
 ·exfalso;simp only[Ac,Bool.and_eq_true]at h;exact jw h.2 C D
 ·exact .inr h
theorem yo:∀(l:List Value),sQ l=true->pf l l=some true
 |[],_=>rfl
 |.int k x::l,h=>by
  have hk:IntKind.rk k k=true\/IntKind.rk k k=false:=by cases IntKind.rk k k<;>simp
  have hk:IntKind.rk k k=true:=by cases k<;>first|rfl|(simp[sQ]at h;done)
  simp only[pf,hk,yo l (by simpa [sQ]using h)];simp
theorem F5{P:Program}{t:TypeId}{k:Value}(h:fZ P t k=true):kEq k k=some true:=by
 unfold fZ at h;split at h
 ·rename_i m j n hu;have hk:IntKind.rk j j=true:=by
   have:=IntKind.ma h;subst this;exact h
  simp[kEq,hk]
 ·simp[kEq]
 ·rename_i d a _;have:sQ a.toList=true:=by
   unfold mc at h;split at h
   ·simp only[Bool.and_eq_true]at h;exact h.2
   ·simp only[Bool.and_eq_true]at h;exact h.1.2
   ·cases h
  simp only[kEq,yo _ this]
 ·cases h
theorem Js{k v:Value}(h:kEq k v=some true):v=k:=by
 unfold kEq at h;split at h
 ·rename_i a b;obtain⟨h1,_⟩:=ua _ _ h;rw[Array.toList_inj.1 h1]
 ·split at h
  ·rename_i j;have e:=IntKind.ma j;subst e;simp only[Option.some.injEq,beq_iff_eq]at h;rw[h]
  ·cases h
 ·simp only[Option.some.injEq,beq_iff_eq]at h;rw[h]
 ·cases h
theorem vp{k:Value}:∀(es:List (Value×AV)) (i0 i:Nat) (A:AV),ka k es i0=some (some (i,A))->∃j,i=i0+j/\es[j]?=some (k,A)
 |[],_,_,_,h=>by simp[ka]at h
 |(k',m)::es,i0,i,A,h=>by
  simp only[ka]at h;split at h
  ·rename_i hk;cases h;exact⟨0,rfl,by rw[Js hk];rfl⟩
  ·obtain⟨j,h1,h2⟩:=vp es (i0+1) i A h;exact⟨j+1,by omega,by simpa using h2⟩
  ·cases h
theorem wG{k:Value}{z:AV}(hk:kEq k k=some true):∀(es:List (Value×AV)) (i0:Nat),ka k es i0=some none->ka k (es++[(k,z)]) i0=some (some (i0+es.length,z))
 |[],i0,_=>by simp[ka,hk]
 |(k',j)::es,i0,h=>by
  simp only[ka]at h;simp only[List.cons_append,ka];split at h
  ·cases h
  ·rw[wG hk es (i0+1) h];congr 3;simp;omega
  ·cases h
theorem AG{P:Program}{H H':List Blk}{t:TypeId}{x k:AV}{A:AV}(p:cI P H t x k false=some A){b:Nat}(Y:x=.mp b){H1:List Blk}(h1:H1[b]?=H[b]?){v:AV}{ws:List (Nat×Blk)}(he:kO P H1 t x k=some (.eff v ws)):
  ∃X,ws=[(b,X)]/\(H'[b]?=some X->cI P H' t x k false=some A):=by
 subst Y;unfold kO at he;unfold cI at p;have hm:jl H1 (.mp b)=jl H (.mp b):=by simp only[jl,h1]
 rw[hm]at he;split at p
 ·rename_i kt e b' es kv hu m C;obtain⟨a1,rfl⟩:H[b]?=some (.map es)/\b'=b:=by
   simp only[jl]at m;split at m
   ·rename_i es' M;cases m;exact⟨M,rfl⟩
   ·cases m
  rw[hu,m,C]at he;simp only at he;split at p
  ·rename_i z i O hk E D;rw[hk,E,D]at he;simp only at he;cases he;refine⟨_,rfl,fun J=>?_⟩;obtain⟨j,T,U⟩:=vp es 0 i O D;have I:es.set i (kv,O)=es:=by
    rw[Nat.zero_add]at T;subst T;apply List.ext_getElem?;intro q;rw[List.getElem?_set];split
    ·rename_i hq;subst hq;rw[if_pos (List.getElem?_eq_some_iff.1 U).1,U]
    ·rfl
   rw[I]at J;simp only[cI,hu,jl,J,C,hk,E,D];exact p
  ·rename_i z hk E D;rw[hk,E,D]at he;simp only at he;cases he;refine⟨_,rfl,fun J=>?_⟩;have N:=wG (z:=z) (F5 hk) es 0 D;simp only[cI,hu,jl,J,C,hk,E,N];exact p
  ·cases p
 ·cases p
theorem BT{P:Program}(o8:rQ P)(hm:P.follows .mixedOrders=true){call:dw}(j4:fP P call){ops:Array Oper}{id:Nat}{st st':St}(h:iY P call ops.toList true st=some st')
  {out:Nat->Prop} {B:Nat->Prop} {w:World} {π:List (Option PB)} {a:Act} (hR:Rep out B w π st a) {Q:Exit->Act->World->Prop}
  (hQ:∀a' w' π',Rep out B w' π' st' a'->Ext B w w' (aI out π st.heap) (aI out π' st'.heap) π π'->Q .normal a' w'):(Code.region id ops true).wp P Q a w:=by
 unfold iY at h;simp only at h;split at h
 ·rename_i r7 es o9;split at h
  ·rename_i l5;cases h;simp only[Bool.and_eq_true]at l5;obtain⟨b1,b3⟩:=l5;obtain⟨L,c4⟩:∃L,L=st'.heap.length:=⟨_,rfl⟩;obtain⟨t1,t2,t3,t4,t5⟩:=vb (L:=L) ops.toList st st' es o9 (by omega);rw[<-c4]at t3;obtain⟨D,a7⟩:∃D:St,D=⟨st.slots,pad L st.heap⟩:=⟨_,rfl⟩;have E:D.heap.length=L:=by rw[a7];exact oT (by omega)
   obtain⟨j5,l6⟩:=hR.inv.same (w':={w with drawn:=w.drawn+1}) rfl rfl rfl rfl (fun _=>Nat.le_succ _);obtain⟨j6,e6⟩:=l6.extend (L-st.heap.length);obtain⟨π0,hπ0⟩:∃π0,π0=π++List.replicate (L-st.heap.length) none:=⟨_,rfl⟩;rw[<-hπ0]at j6 e6;have p1:Rep out B {w with drawn:=w.drawn+1} π0 D a:=by
    rw[a7];exact⟨hR.defers,RvL.ext e6 _ _ (RvL.ext j5 _ _ hR.slots),j6⟩
   have c5:∀b,st.heap.length<=b->∀q,π0[b]?≠some (some q):=by
    intro b J q hq;have:=hR.inv.len;rw[hπ0,List.getElem?_append_right (by omega)]at hq;have:=List.mem_of_getElem? hq;simp at this
   have l7:Ext B w {w with drawn:=w.drawn+1} (aI out π st.heap) (aI out π0 D.heap) π π0:=by rw[a7];exact j5.trans e6
   clear e6 j5 l6 j6;refine wp_region_any hm ?_;have key:∀(fuel:Nat) (C:Array Bool) (a:Act) (w1:World) (π1:List (Option PB)),C.size=ops.size->((List.range ops.size).countP fun i=>!C.getD i false)=fuel->
     (∀(j:Nat) (o:Oper),ops.toList[j]?=some o->C.getD j false=true->∀e∈o.after.toList,Region.binds .any e=true->C.getD e.on false=true)->
     Rep out B w1 π1 (bO es (fun j=>C.getD j false) 0 D) a->
     Ext B w w1 (aI out π st.heap) (aI out π1 (bO es (fun j=>C.getD j false) 0 D).heap) π π1->
     (∀b,st.heap.length<=b->(∀(j:Nat) (e:Ent),es[j]?=some e->C.getD j false=true->b∉dK e.ws)->∀q,π1[b]?≠some (some q))->
     wpAny P .any ops Q fuel C a w1:=by
    intro fuel;induction fuel with
    |zero=>
     intro C a w1 π1 l8 b4 b8 e7 e8 j7;have j1:∀i,i<ops.size->C.getD i false=true:=by
      intro i hi;rw[List.countP_eq_zero]at b4;have:=b4 i (by simpa using hi);simpa using this
     have c6:bO es (fun j=>C.getD j false) 0 D=st':=by
      have e1:bO es (fun j=>C.getD j false) 0 D=bO es (fun _=>true) 0 D:=by
       have hs:∀(j:Nat) (e:Ent),es[j]?=some e->C.getD (0+j) false=true:=fun j e he=>by
        rw[Nat.zero_add];exact j1 j (by have:=aK he;rw[t2]at this;simpa using this)
       have l1:=mj es (fun j=>C.getD j false) 0 D t3 E;have l2:=mj es (fun _=>true) 0 D t3 E;have j8:(bO es (fun j=>C.getD j false) 0 D).slots=(bO es (fun _=>true) 0 D).slots:=
        List.ext_getElem? fun t=>gY es _ _ 0 D D rfl rfl fun j e he _=>hs j e he
       have j9:(bO es (fun j=>C.getD j false) 0 D).heap=(bO es (fun _=>true) 0 D).heap:=
        List.ext_getElem? fun b=>ib es _ _ 0 D D t3 E E rfl fun j e he _=>hs j e he
       cases hA:bO es (fun j=>C.getD j false) 0 D;cases hB:bO es (fun _=>true) 0 D;rw[hA,hB]at j8 j9;simp only at j8 j9;rw[j8,j9]
      rw[e1,a7,t4,c4,Fh]
     refine⟨?_,?_⟩
     ·unfold Region.ready;rw[List.filter_eq_nil_iff];intro i hi;have p2:i<ops.size:=by simpa using hi
      have h1:=j1 i p2;have h2:C.getD i true=true:=by
       rw[Array.getD_eq_getD_getElem?]at h1 ⊢;cases hl:C[i]? with
       |none=>rfl
       |some x=>rw[hl]at h1;simpa using h1
      simp[h2]
     ·rw[c6]at e7 e8;exact hQ a w1 π1 e7 e8
    |succ fuel ih=>
     intro C a w1 π1 l8 b4 b8 e7 e8 j7;refine⟨?_,?_⟩
     ·
      intro l9;exfalso;have hex:∃i,i<ops.size/\C.getD i false=false:=by
       have j2:0<(List.range ops.size).countP fun i=>!C.getD i false:=by omega
       rw[List.countP_pos_iff]at j2;obtain⟨i,h1,h2⟩:=j2;exact⟨i,by simpa using h1,by simpa using h2⟩
      have n0:∃i,i<ops.size/\C.getD i false=false/\∀k,k<i->C.getD k false=true:=by
       obtain⟨i,h1,h2⟩:=hex;induction i using Nat.strongRecOn with
       |_ i p3=>
        by_cases hk:∃k,k<i/\C.getD k false=false
        ·obtain⟨k,k1,k2⟩:=hk;exact p3 k k1 (by omega) k2
        ·exact⟨i,h1,h2,fun k p4=>by
          cases hv:C.getD k false with
          |true=>rfl
          |false=>exact(hk ⟨k,p4,hv⟩).elim⟩
      obtain⟨i,h1,h2,h3⟩:=n0;have a1:i∈Region.ready .any ops C:=by
       unfold Region.ready;rw[List.mem_filter];refine⟨by simpa using h1,?_⟩;have N:i<C.size:=by omega
       have e1:C.getD i true=false:=by
        rw[Array.getD_eq_getD_getElem?]at h2 ⊢;rw[Array.getElem?_eq_getElem N]at h2 ⊢;simpa using h2
       have e2:ops[i]?=some ops[i]:=Array.getElem?_eq_getElem h1;rw[e1,e2];simp only[Bool.not_false,Bool.true_and,Option.map_some,Option.getD_some,Array.all_eq_true'];intro e he;cases J:Region.binds .any e with
       |false=>rfl
       |true=>
        have:=pV ops.toList 0 i ops[i] b1 (by simp[h1]) e (by simpa using he) J;simp only[Bool.not_true,Bool.false_or];exact h3 _ (by omega)
      rw[l9]at a1;cases a1
     ·intro i hi;unfold Region.ready at hi;rw[List.mem_filter]at hi;obtain⟨c7,e9⟩:=hi;have c7:i<ops.size:=by simpa using c7
      simp only[Bool.and_eq_true,Bool.not_eq_true']at e9;obtain⟨e9,k0⟩:=e9;obtain⟨a8,T⟩:=Hd e9;obtain⟨o,ho⟩:∃o,ops[i]?=some o:=⟨ops[i],Array.getElem?_eq_getElem c7⟩;have k3:ops.toList[i]?=some o:=by rw[Array.getElem?_toList];exact ho
      rw[ho]at k0;simp only[Option.map_some,Option.getD_some,Array.all_eq_true']at k0;have c8:∀e∈o.after.toList,Region.binds .any e=true->C.getD e.on false=true:=by
       intro e he J;have:=k0 e (by simpa using he);simpa [J]using this
      obtain⟨e,he⟩:∃e,es[i]?=some e:=by
       have:i<es.length:=by rw[t2];simpa using c7
       exact⟨es[i],geT this⟩
      obtain⟨o2,I,st1,g1,g2,g3,g4,g5,g6,g7,g8⟩:=t5 i e he;rw[k3]at g1;cases g1;subst g4;have U:∀j b,j<i->es[j]?=some b->((∃x,x∈dK b.ws/\(x∈e.rd\/x∈dK e.ws))\/(∃t,t∈b.o.dst.toList/\(t∈dG ops.toList e.o\/t∈e.o.dst.toList))\/(∃t,t∈e.o.dst.toList/\t∈dG ops.toList b.o))->
        C.getD j false=true:=by
       intro j b hj J k4;have b5:=tD b3 hj J he k4;exact pU b1 (s:=fun j=>C.getD j false) b8 i e.o k3 c8 j b5
      have M:∀j b,i<j->es[j]?=some b->((∃x,x∈dK e.ws/\(x∈b.rd\/x∈dK b.ws))\/(∃t,t∈e.o.dst.toList/\(t∈dG ops.toList b.o\/t∈b.o.dst.toList))\/(∃t,t∈b.o.dst.toList/\t∈dG ops.toList e.o))->
        C.getD j false=false:=by
       intro j b hj J k4;have b5:=tD b3 hj he J k4;cases hv:C.getD j false with
       |false=>rfl
       |true=>
        have b6:j<ops.toList.length:=by rw[<-t2];exact aK J
        have:=pU b1 (s:=fun j=>C.getD j false) b8 j ops.toList[j] (geT b6) (b8 j _ (geT b6) hv) i b5;rw[this]at T;cases T
      have c9:=mj es (fun j=>C.getD j false) 0 D t3 E;have O:bO es (fun j=>decide (j<0+i)) 0 D=⟨I.slots,pad L I.heap⟩:=by rw[sc,a7,g8]
      have h6:∀t∈dG ops.toList e.o,(bO es (fun j=>C.getD j false) 0 D).slots[t]?=I.slots[t]?:=by
       intro t ht;have:=gY (t:=t) es (fun j=>C.getD j false) (fun j=>decide (j<0+i)) 0 D D rfl rfl (fun j b J hw=>by
        simp only[Nat.zero_add];rcases Nat.lt_trichotomy j i with N|rfl|hgt
        ·rw[U j b N J (.inr (.inl ⟨t,hw,.inl ht⟩))];simp[N]
        ·rw[T];simp
        ·rw[M j b hgt J (.inr (.inr ⟨t,hw,ht⟩))];simp;omega)
       rw[this,O]
      have k5:=(oq g3).1;have b7:∀j b,i<j->es[j]?=some b->∀x,x∈dK b.ws->x∈e.rd->C.getD j false=false\/rD ops.toList e b ((es.take j).drop (i+1))=true:=by
       intro j b hj J x hx hr;rcases FX b3 hj he J hx hr with b5|hs
       ·left;cases hv:C.getD j false with
        |false=>rfl
        |true=>
         have b6:j<ops.toList.length:=by rw[<-t2];exact aK J
         have:=pU b1 (s:=fun j=>C.getD j false) b8 j ops.toList[j] (geT b6) (b8 j _ (geT b6) hv) i b5;rw[this]at T;cases T
       ·exact .inr hs
      have k6:(∀b∈e.rd,(bO es (fun j=>C.getD j false) 0 D).heap[b]?=I.heap[b]?)\/((∃t m k,e.o.op=.lookup t m k false)/\∀r,evalOp P (evA I.slots) I.heap I.heap.length e.o=some r->evalOp P (evA I.slots) (bO es (fun j=>C.getD j false) 0 D).heap I.heap.length e.o=some r):=by
       by_cases hex:∃j b,i<j/\es[j]?=some b/\C.getD j false=true/\rD ops.toList e b ((es.take j).drop (i+1))=true
       ·right;obtain⟨j,b,c0,J,p5,Y⟩:=hex;obtain⟨sw,p6,r8,r9⟩:=ya Y;unfold rD at Y;split at Y
        ·rename_i t m k t' m' k' e3 j3;simp only[Bool.and_eq_true]at Y;obtain⟨⟨⟨⟨⟨⟨⟨⟨⟨q1,q2⟩,q3⟩,q4⟩,q5⟩,_⟩,_⟩,_⟩,_⟩,qm⟩:=Y;obtain rfl:=Nat.eq_of_beq_eq_true q1;obtain rfl:=Nat.eq_of_beq_eq_true q2;obtain rfl:=Nat.eq_of_beq_eq_true q3;refine⟨⟨_,_,_,e3⟩,fun r hr=>?_⟩;have e4:∀q c,i<q->q<j->es[q]?=some c->(∀x∈dK c.ws,x∉e.rd)/\m∉c.o.dst.toList/\k∉c.o.dst.toList:=by
          intro q c h1 h2 hc;have a1:c∈(es.take j).drop (i+1):=by
           refine List.mem_of_getElem? (i:=q-(i+1)) ?_;rw[List.getElem?_drop,show i+1+(q-(i+1))=q by omega,List.getElem?_take,if_pos h2];exact hc
          have:=List.all_eq_true.1 qm c a1;simp only[Bool.and_eq_true,Bool.not_eq_true']at this;obtain⟨⟨h3,h4⟩,h5⟩:=this;exact⟨fun x hx=>jw h3 hx,by simpa using h4,by simpa using h5⟩
         obtain⟨o3,sj,s0,f1,f2,f3,f4,f5,f6,f7,f8⟩:=t5 j b J;have n1:bO es (fun q=>decide (q<0+j)) 0 D=⟨sj.slots,pad L sj.heap⟩:=by rw[sc,a7,f8]
         have p7:∀y∈b.o.op.operands.toList,∀t,y=.tmp t->t∈dG ops.toList b.o:=fun y hy t ht=>by
          subst ht;simp only[dG,List.mem_append];exact .inl (wi hy)
         have p8:∀y,y∈[m,k]->I.slots[y]?=sj.slots[y]?:=by
          intro y hy;have p9:y∈dG ops.toList b.o:=p7 (.tmp y) (by rw[j3];simp[Op.operands]at hy ⊢;rcases hy with h|h<;>simp[h]) y rfl;have:=gY (t:=y) es (fun q=>decide (q<0+i)) (fun q=>decide (q<0+j)) 0 D D rfl rfl (fun q c hc hw=>by
           simp only[Nat.zero_add];rcases Nat.lt_trichotomy q i with N|rfl|hgt
           ·simp[N,Nat.lt_trans N c0]
           ·rw[he]at hc;cases hc;exact(jw p6 hw p9).elim
           ·by_cases e5:q<j
            ·obtain⟨_,z1,z2⟩:=e4 q c hgt e5 hc;simp at hy;rcases hy with h|h
             ·exact(z1 (h▸hw)).elim
             ·exact(z2 (h▸hw)).elim
            ·simp;omega)
          rw[O,n1]at this;exact this
         have n3:∀y,y∈[m,k]->evA sj.slots (.tmp y)=evA I.slots (.tmp y):=fun y hy=>(yi fun t ht=>by cases ht;exact p8 y hy).symm
         have eo:∀(ρ:Operand->AV) (H:List Blk) (nid:Nat),evalOp P ρ H nid e.o=bj.ofP (cI P H t (ρ (.tmp m)) (ρ (.tmp k)) false):=fun ρ H nid=>by
          unfold evalOp;rw[e3];rfl
         rw[eo]at hr ⊢;cases a6:cI P I.heap t (evA I.slots (.tmp m)) (evA I.slots (.tmp k)) false with
         |none=>rw[a6]at hr;cases hr
         |some A=>
          rw[a6]at hr;obtain⟨b0,k7⟩:∃b0,evA I.slots (.tmp m)=.mp b0:=by
           unfold cI jl at a6;split at a6
           ·rename_i n4 _;split at n4
            ·exact⟨_,by assumption⟩
            ·cases n4
           ·cases a6
          have g1:e.o.guard=none:=by simpa using q4
          have q0:b.o.guard=none:=by simpa using q5
          have c3:e.rd=[b0]:=by
           have h0:=g2;unfold ju at h0;have hw:cH ops.toList e.o I.slots=some true:=by unfold cH;rw[g1]
           rw[hw]at h0;simp only[eo,a6,bj.ofP]at h0;rw[dS]at h0;have h0:=congrArg (fun z=>(z.bind fun w=>w.2).map (·.rd)) h0;simp only[Option.bind_some,Option.map_some,Option.some.injEq]at h0;rw[<-h0];unfold oJ;rw[e3];simp only[k7,dc]
          have k8:b0<I.heap.length:=by
           have:=(oq g3).1 b0 (by rw[c3];simp);exact this
          have b9:sj.heap[b0]?=I.heap[b0]?:=by
           have:=ib (b:=b0) es (fun q=>decide (q<0+i)) (fun q=>decide (q<0+j)) 0 D D t3 E E rfl (fun q c hc hw=>by
            simp only[Nat.zero_add];rcases Nat.lt_trichotomy q i with N|rfl|hgt
            ·simp[N,Nat.lt_trans N c0]
            ·rw[he]at hc;cases hc;rw[sw]at hw;simp[dK]at hw
            ·by_cases e5:q<j
             ·exact((e4 q c hgt e5 hc).1 b0 hw (by rw[c3];simp)).elim
             ·simp;omega)
           rw[O,n1]at this;simp only at this;rw[zd k8]at this;have n5:b0<sj.heap.length:=by
            by_cases hc:sj.heap.length<=b0
            ·exfalso;have h9:(pad L sj.heap)[b0]?=some .dead:=by
              have r6:b0<L:=by omega
              simp only[pad,gK];rw[List.getElem?_append_right hc,List.getElem?_replicate,if_pos (by omega)]
             rw[h9]at this;unfold cI at a6;rw[k7]at a6;simp only[jl,this]at a6
             (repeat' split at a6)<;>simp_all
            ·omega
           rw[zd n5]at this;exact this.symm
          have h0:=f2;rw[<-f4]at h0;unfold ju at h0;have hw:cH ops.toList b.o sj.slots=some true:=by unfold cH;rw[q0]
          have eb:evalOp P (evA sj.slots) sj.heap sj.heap.length b.o=kO P sj.heap t (evA sj.slots (.tmp m)) (evA sj.slots (.tmp k)):=by
           unfold evalOp;rw[j3];rfl
          rw[hw]at h0;simp only[eb,n3 m (by simp),n3 k (by simp)]at h0;split at h0
          ·rename_i v hv;unfold kO at hv;(repeat' split at hv)<;>cases hv
          ·rename_i v ws hv;rw[dS]at h0;have k9:=congrArg (fun z=>(z.bind fun w=>w.2).map (·.ws)) h0;simp only[Option.bind_some,Option.map_some,Option.some.injEq]at k9;obtain⟨X,hX,c6⟩:=AG (H':=(bO es (fun j=>C.getD j false) 0 D).heap) a6 k7 b9 hv;rw[c6 ?_]
           ·exact hr
           have n9:b0∈dK b.ws:=by rw[<-k9,hX];simp[dK]
           have o0:=ke (b:=b0) es (fun q=>decide (q<0+i)) 0 j D b t3 E J (by simp;omega) n9 (fun q c hq hc hw=>by simp;omega);have h7:=ib (b:=b0) es (fun j=>C.getD j false) (fun q=>decide (q<0+i)||decide (q=0+j)) 0 D D t3 E E rfl (fun q c hc hw=>by
            simp only[Nat.zero_add];rcases Nat.lt_trichotomy q i with N|rfl|hgt
            ·rw[U q c N hc (.inl ⟨b0,hw,.inl (by rw[c3];simp)⟩)];simp[N]
            ·rw[he]at hc;cases hc;rw[sw]at hw;simp[dK]at hw
            ·by_cases e5:q=j
             ·subst e5;rw[p5];simp
             ·have hf:C.getD q false=false:=by
               rcases b7 q c hgt hc b0 hw (by rw[c3];simp)with h|h
               ·exact h
               ·exfalso;rcases Nat.lt_or_ge q j with h1|h1
                ·exact(e4 q c hgt h1 hc).1 b0 hw (by rw[c3];simp)
                ·have a1:b∈(es.take q).drop (i+1):=by
                  refine List.mem_of_getElem? (i:=j-(i+1)) ?_;rw[List.getElem?_drop,show i+1+(j-(i+1))=j by omega,List.getElem?_take,if_pos (by omega)];exact J
                 unfold rD at h;split at h
                 ·simp only[Bool.and_eq_true]at h;have h2:=List.all_eq_true.1 h.2 b a1;simp only[Bool.and_eq_true]at h2;exact jw h2.1.1 n9 (by rw[c3];simp)
                 ·cases h
              rw[hf];simp;omega)
           rw[h7,o0,O,<-k9,hX];simp only[aN];rw[eI (by have:=oT (H:=I.heap) (L:=L) (by omega);omega),if_pos rfl]
          ·rename_i f as hv;unfold kO at hv;(repeat' split at hv)<;>cases hv
          ·cases h0
        ·cases Y
       ·left;intro b J;have:=ib (b:=b) es (fun j=>C.getD j false) (fun j=>decide (j<0+i)) 0 D D t3 E E rfl (fun j x hx hw=>by
         simp only[Nat.zero_add];rcases Nat.lt_trichotomy j i with N|rfl|hgt
         ·rw[U j x N hx (.inl ⟨b,hw,.inl J⟩)];simp[N]
         ·rw[T];simp
         ·have hf:C.getD j false=false:=by
           rcases b7 j x hgt hx b hw J with h|h
           ·exact h
           ·cases hv:C.getD j false with
            |false=>rfl
            |true=>exact(hex ⟨j,x,hgt,hx,hv,h⟩).elim
          rw[hf];simp;omega)
        rw[this,O];exact zd (k5 b J)
      have h8:∀b∈dK e.ws,I.heap.length<=b->∀q,π1[b]?≠some (some q):=by
       intro b J s3;refine j7 b (by omega) fun j x hx hl l0=>?_
       rcases Nat.lt_trichotomy j i with N|rfl|hgt
       ·have:=(nj es 0 i j x e b3 he (by omega) hx).2;simp only[dK,List.mem_map]at l0;obtain⟨p,hp,rfl⟩:=l0;have:=this p hp;omega
       ·rw[T]at hl;cases hl
       ·rw[M j x hgt hx (.inl ⟨b,J,.inr l0⟩)]at hl;cases hl
      have l3:I.heap.length+e.n<=L:=by
       rcases Nat.eq_zero_or_pos e.n with h0|h0
       ·omega
       ·have h1:=(oq g3).2.2 (e.n-1) (by omega);have h2:=t3 e (List.mem_of_getElem? he) _ h1;omega
      have j0:dQ e (bO es (fun j=>C.getD j false) 0 D)=bO es (fun j=>(C.setIfInBounds i true).getD j false) 0 D:=by
       have o1:(fun j=>(C.setIfInBounds i true).getD j false)=fun j=>C.getD j false||decide (j=0+i):=by
        funext j;rw[getD_set_true a8,Nat.zero_add]
       rw[o1];have q6:∀x∈dK e.ws,x<L:=t3 e (List.mem_of_getElem? he);have e1:(bO es (fun j=>C.getD j false||decide (j=0+i)) 0 D).slots=fQ (bO es (fun j=>C.getD j false) 0 D).slots e.o.dst e.v:=by
        refine List.ext_getElem? fun t=>?_
        by_cases ht:t∈e.o.dst.toList
        ·exact mG es (fun j=>C.getD j false) 0 i D e he (by simpa using T) ht fun j b c0 J hw=>by
          rw[Nat.zero_add];exact M j b c0 J (.inr (.inl ⟨t,ht,.inr hw⟩))
        ·rw[sG ht];refine gY es _ _ 0 D D rfl rfl fun j b J hw=>?_
         have:¬0+j=0+i:=by
          intro e0;obtain rfl:j=i:=by omega
          rw[he]at J;cases J;exact ht hw
         rw[decide_eq_false this,Bool.or_false]
       have e2:(bO es (fun j=>C.getD j false||decide (j=0+i)) 0 D).heap=aN (bO es (fun j=>C.getD j false) 0 D).heap e.ws:=by
        refine List.ext_getElem? fun b=>?_
        by_cases J:b∈dK e.ws
        ·exact ke es (fun j=>C.getD j false) 0 i D e t3 E he (by simpa using T) J fun j x c0 hx hw=>by
          rw[Nat.zero_add];exact M j x c0 hx (.inl ⟨b,J,.inr hw⟩)
        ·rw[lZ _ _ (by rw[c9.1];exact q6) J];refine ib es _ _ 0 D D t3 E E rfl fun j x hx hw=>?_
         have:¬0+j=0+i:=by
          intro e0;obtain rfl:j=i:=by omega
          rw[he]at hx;cases hx;exact J hw
         rw[decide_eq_false this,Bool.or_false]
       unfold dQ;cases hF:bO es (fun j=>C.getD j false||decide (j=0+i)) 0 D;rw[hF]at e1 e2;simp only at e1 e2;rw[e1,e2]
      unfold wpOp;rw[ho];simp only;refine B3 o8 j4 g2 g3 (by rw[c9.1];exact l3) h6 k6 e7 h8 fun a' w' π' o4 o5 q7=>?_
      rw[j0]at o4 o5;refine ih (C.setIfInBounds i true) a' w' π' (by simpa using l8) ?_ ?_ o4 (e8.trans o5) ?_
      ·have s4:((List.range ops.size).countP fun j=>!C.getD j false)=((List.range ops.size).countP fun j=>!(C.setIfInBounds i true).getD j false)+1:=by
        have gen:∀(l:List Nat),l.Nodup->i∈l->(l.countP fun j=>!C.getD j false)=(l.countP fun j=>!(C.setIfInBounds i true).getD j false)+1:=by
         intro l;induction l with
         |nil=>intro _ h;cases h
         |cons x l q8=>
          intro l4 a1;rw[List.nodup_cons]at l4;rw[List.countP_cons,List.countP_cons,getD_set_true a8];by_cases hx:x=i
          ·subst hx;have b9:(l.countP fun j=>!C.getD j false)=l.countP fun j=>!(C.setIfInBounds x true).getD j false:=by
            refine List.countP_congr fun y hy=>?_
            rw[getD_set_true a8];have:¬y=x:=by rintro rfl;exact l4.1 hy
            simp[this]
           rw[b9,T];simp
          ·have:=q8 l4.2 (by
            rcases List.mem_cons.1 a1 with e0|e0
            ·exact(hx e0.symm).elim
            ·exact e0)
           rw[this];simp[hx];omega
        exact gen _ List.nodup_range (by simpa using c7)
       omega
      ·intro j oj hj hs e' o6 J;rw[getD_set_true a8]at hs ⊢;rw[Bool.or_eq_true]at hs ⊢;left;rcases hs with hs|hs
       ·exact b8 j oj hj hs e' o6 J
       ·obtain rfl:j=i:=by simpa using hs
        rw[k3]at hj;cases hj;exact c8 e' o6 J
      ·intro b J o7 q hq;have q9:b∉dK e.ws:=o7 i e he (by rw[getD_set_true a8];simp);rw[q7 b q9]at hq;refine j7 b J (fun j x hx hl=>o7 j x hx ?_) q hq;rw[getD_set_true a8,hl];simp
   refine key ops.size (Array.replicate ops.size false) a {w with drawn:=w.drawn+1} π0 (by simp) ?_ ?_ ?_ ?_ ?_
   ·have:∀i,(Array.replicate ops.size false).getD i false=false:=fun i=>getD_none i
    simp only[this,Bool.not_false];simp
   ·intro j o _ hj;have:∀i,(Array.replicate ops.size false).getD i false=false:=fun i=>getD_none i
    rw[this]at hj;cases hj
   ·have:(fun j=>(Array.replicate ops.size false).getD j false)=fun _=>false:=by funext i;exact getD_none i
    rw[this,sf];exact p1
   ·have:(fun j=>(Array.replicate ops.size false).getD j false)=fun _=>false:=by funext i;exact getD_none i
    rw[this,sf];exact l7
   ·intro b J _;exact c5 b J
  ·cases h
 ·cases h
end Go.Eng

