import Derived.Test.YtfhhaadcodofnaaGreatEng8Chks
set_option linter.all false
namespace Go.Eng
open Go Go.RowKit
variable[Dr]
section
variable{P:Program}{out:Nat->Prop}{B:Nat->Prop}
theorem tM(q:ui P){call:eN}(m:iJ P call){ops:Array Oper}{Q:Exit->Act->World->Prop}:∀(l:List Oper) (k:Nat) (st st':St) (w:World) (π:List (Option PB)) (a:Act),(∀j,l[j]?=ops[k+j]?)->
  iT P call ops.toList l st=some st'->Rep out B w π st a->
  (∀a' w' π',Rep out B w' π' st' a'->Ext B w w' (aL out π st.heap) (aL out π' st'.heap) π π'->Q .normal a' w')->wpOps P ops Q (List.range' k l.length) a w
 |[],k,st,st',w,π,a,_,h,D,E=>by
  cases h;exact E a w π D (Ext.refl _ _ _)
 |o::l,k,st,st',w,π,a,T,h,D,E=>by
  simp only[iT]at h;split at h
  ·rename_i st1 Y h1;have U:ops[k]?=some o:=by simpa using(T 0).symm
   simp only[List.length_cons,List.range'_succ,wpOps,U];refine Br q m D h1 (K:=wpOps P ops Q (List.range' (k+1) l.length)) (Q:=Q) fun a' w' π' I J=>?_
   refine tM q m l (k+1) st1 st' w' π' a' (fun j=>?_) h I fun N O π'' z C=>E N O π'' z (J.trans C)
   have:=T (j+1);simpa [Nat.add_assoc,Nat.add_comm 1 j]using this
  ·cases h
end
def fo(ws:List (Nat×Blk)):List Nat:=ws.map (·.1)
theorem jY:∀(ws:List (Nat×Blk)) (h:List Blk),(∀i∈fo ws,i<h.length)->(aR h ws).length=h.length
 |[],_,_=>rfl
 |(i,x)::ws,h,m=>by
  have z:i<h.length:=m i (by simp[fo]);have e:(upd h i x).length=h.length:=by rw[dD (by omega),if_neg (by omega)]
  rw[aR,jY ws _ (fun j q=>by rw[e];exact m j (by simp[fo]at q ⊢;exact .inr q)),e]
theorem od{b:Nat}:∀(ws:List (Nat×Blk)) (h:List Blk),(∀i∈fo ws,i<h.length)->b∉fo ws->(aR h ws)[b]?=h[b]?
 |[],_,_,_=>rfl
 |(i,x)::ws,h,q,hb=>by
  have C:i<h.length:=q i (by simp[fo]);have e:(upd h i x).length=h.length:=by rw[dD (by omega),if_neg (by omega)]
  rw[aR,od ws _ (fun j z=>by rw[e];exact q j (by simp[fo]at z ⊢;exact .inr z)) (fun m=>hb (by simp[fo]at m ⊢;exact .inr m)),gr (by omega),if_neg];rintro rfl;exact hb (by simp[fo])
theorem rC{b:Nat}:∀(ws:List (Nat×Blk)) (h k:List Blk),h.length=k.length->(∀i∈fo ws,i<h.length)->(b∈fo ws\/h[b]?=k[b]?)->(aR h ws)[b]?=(aR k ws)[b]?
 |[],_,_,_,_,hb=>by rcases hb with hb|hb;(simp[fo]at hb);exact hb
 |(i,x)::ws,h,k,hlen,q,hb=>by
  have C:i<h.length:=q i (by simp[fo]);have e1:(upd h i x).length=h.length:=by rw[dD (by omega),if_neg (by omega)]
  have e2:(upd k i x).length=k.length:=by rw[dD (by omega),if_neg (by omega)]
  refine rC ws _ _ (by omega) (fun j z=>by rw[e1];exact q j (by simp[fo]at z ⊢;exact .inr z)) ?_;by_cases m:b=i
  ·right;subst m;rw[gr (by omega),gr (by omega),if_pos rfl,if_pos rfl]
  ·rcases hb with hb|hb
   ·left;simp only[fo,List.map_cons,List.mem_cons]at hb ⊢;exact hb.resolve_left m
   ·right;rw[gr (by omega),gr (by omega),if_neg m,if_neg m];exact hb
theorem pD(s:List AV)(d:Option Tmp)(v:AV):(iM s d v).length=s.length:=by cases d<;>simp[iM]
theorem ue{s:List AV}{d:Option Tmp}{v:AV}{t:Nat}(h:t∉d.toList):(iM s d v)[t]?=s[t]?:=by
 cases d with
 |none=>rfl
 |some d=>simp only[iM];rw[List.getElem?_set,if_neg];rintro rfl;exact h (by simp)
theorem ym{s r:List AV}{d:Option Tmp}{v:AV}{t:Nat}(m:s.length=r.length)(h:t∈d.toList\/s[t]?=r[t]?):(iM s d v)[t]?=(iM r d v)[t]?:=by
 cases d with
 |none=>rcases h with h|h;(simp at h);exact h
 |some d=>
  simp only[iM];rw[List.getElem?_set,List.getElem?_set,m];split
  ·rfl
  ·rename_i j;rcases h with h|h
   ·simp at h;exact(j h.symm).elim
   ·exact h
def fA(e:Ent)(st:St):St:=⟨iM st.slots e.o.dst e.v,aR st.heap e.ws⟩
def cM:List Ent->(Nat->Bool)->Nat->St->St
 |[],_,_,st=>st
 |e::es,s,k,st=>cM es s (k+1) (if s k then fA e st else st)
def Below(L:Nat)(es:List Ent):Prop:=∀e∈es,∀i∈fo e.ws,i<L
theorem oD{L:Nat}:∀(es:List Ent) (s:Nat->Bool) (k:Nat) (st:St),Below L es->st.heap.length=L->(cM es s k st).heap.length=L/\(cM es s k st).slots.length=st.slots.length
 |[],_,_,_,_,h=>⟨h,rfl⟩
 |e::es,s,k,st,hb,h=>by
  simp only[cM];split
  ·have h1:=oD es s (k+1) (fA e st) (fun x hx=>hb x (by simp[hx])) (by rw[fA];simp only;rw[jY _ _ (by rw[h];exact hb e (by simp)),h]);exact⟨h1.1,by rw[h1.2];simp[fA,pD]⟩
  ·exact oD es s (k+1) st (fun x hx=>hb x (by simp[hx])) h
theorem jN{L b:Nat}:∀(es:List Ent) (s r:Nat->Bool) (k:Nat) (st z:St),Below L es->st.heap.length=L->z.heap.length=L->st.heap[b]?=z.heap[b]?->
  (∀(j:Nat) (e:Ent),es[j]?=some e->b∈fo e.ws->s (k+j)=r (k+j))->(cM es s k st).heap[b]?=(cM es r k z).heap[b]?
 |[],_,_,_,_,_,_,_,_,h,_=>h
 |e::es,s,r,k,st,z,hb,h1,h2,h,hs=>by
  have m:=hb e (by simp);have C:Below L es:=fun x hx=>hb x (by simp[hx])
  have D:∀(j:Nat) (E:Ent),es[j]?=some E->b∈fo E.ws->s (k+1+j)=r (k+1+j):=fun j E I J=>by
   have:=hs (j+1) E (by simpa using I) J;simpa [Nat.add_assoc,Nat.add_comm 1 j]using this
  have l1:(fA e st).heap.length=L:=by simp only[fA];rw[jY _ _ (by rw[h1];exact m),h1]
  have l2:(fA e z).heap.length=L:=by simp only[fA];rw[jY _ _ (by rw[h2];exact m),h2]
  simp only[cM];by_cases q:b∈fo e.ws
  ·have:=hs 0 e rfl q;simp only[Nat.add_zero]at this;rw[this];split
   ·exact jN es s r (k+1) _ _ C l1 l2 (rC _ _ _ (by omega) (by rw[h1];exact m) (.inl q)) D
   ·exact jN es s r (k+1) _ _ C h1 h2 h D
  ·have N:(fA e st).heap[b]?=st.heap[b]?:=od _ _ (by rw[h1];exact m) q;have O:(fA e z).heap[b]?=z.heap[b]?:=od _ _ (by rw[h2];exact m) q;split<;>split<;>refine jN es s r (k+1) _ _ C (by assumption) (by assumption) ?_ D<;>simp only[N,O,h]
theorem jD{t:Nat}:∀(es:List Ent) (s r:Nat->Bool) (k:Nat) (st q:St),st.slots.length=q.slots.length->st.slots[t]?=q.slots[t]?->
  (∀(j:Nat) (e:Ent),es[j]?=some e->t∈e.o.dst.toList->s (k+j)=r (k+j))->(cM es s k st).slots[t]?=(cM es r k q).slots[t]?
 |[],_,_,_,_,_,_,h,_=>h
 |e::es,s,r,k,st,q,D,h,hs=>by
  have z:∀(j:Nat) (C:Ent),es[j]?=some C->t∈C.o.dst.toList->s (k+1+j)=r (k+1+j):=fun j C E I=>by
   have:=hs (j+1) C (by simpa using E) I;simpa [Nat.add_assoc,Nat.add_comm 1 j]using this
  have l1:(fA e st).slots.length=st.slots.length:=pD _ _ _;have l2:(fA e q).slots.length=q.slots.length:=pD _ _ _;simp only[cM];by_cases m:t∈e.o.dst.toList
  ·have:=hs 0 e rfl m;simp only[Nat.add_zero]at this;rw[this];split
   ·exact jD es s r (k+1) _ _ (by omega) (ym D (.inl m)) z
   ·exact jD es s r (k+1) _ _ D h z
  ·have J:(fA e st).slots[t]?=st.slots[t]?:=ue m;have N:(fA e q).slots[t]?=q.slots[t]?:=ue m;split<;>split<;>refine jD es s r (k+1) _ _ (by omega) ?_ z<;>simp only[J,N,h]
theorem mJ{L b:Nat}:∀(es:List Ent) (s:Nat->Bool) (k i:Nat) (st:St) (e:Ent),Below L es->st.heap.length=L->es[i]?=some e->s (k+i)=false->b∈fo e.ws->
  (∀(j:Nat) (q:Ent),i<j->es[j]?=some q->b∈fo q.ws->s (k+j)=false)->
  (cM es (fun j=>s j||decide (j=k+i)) k st).heap[b]?=(aR (cM es s k st).heap e.ws)[b]?
 |[],_,_,_,_,_,_,_,h,_,_,_=>by simp at h
 |e0::es,s,k,0,st,e,hb,E,h,hs,I,m=>by
  simp only[List.getElem?_cons_zero,Option.some.injEq]at h;subst h;have C:=hb e0 (by simp);have D:Below L es:=fun x hx=>hb x (by simp[hx])
  simp only[Nat.add_zero]at hs;simp only[cM,Nat.add_zero,hs,Bool.false_eq_true,if_false,decide_true,Bool.false_or,if_true];have hlen:=(oD es s (k+1) st D E).1;have l1:(fA e0 st).heap.length=L:=by simp only[fA];rw[jY _ _ (by rw[E];exact C),E]
  have N:∀(r:Nat->Bool) (z:St),z.heap.length=L->(∀(j:Nat) (q:Ent),es[j]?=some q->b∈fo q.ws->r (k+1+j)=false)->(cM es r (k+1) z).heap[b]?=z.heap[b]?:=by
   intro r z J U;have:=jN (b:=b) es r (fun _=>false) (k+1) z z D J J rfl (fun j q h1 h2=>U j q h1 h2);rw[this];clear this;have O:∀(es:List Ent) (k:Nat) (z:St),cM es (fun _=>false) k z=z:=by
    intro es;induction es with
    |nil=>intro _ _;rfl
    |cons x es Y=>intro k z;simp[cM,Y]
   rw[O]
  have T:∀(j:Nat) (q:Ent),es[j]?=some q->b∈fo q.ws->s (k+1+j)=false:=fun j q h1 h2=>by
   have:=m (j+1) q (by omega) (by simpa using h1) h2;simpa [Nat.add_assoc,Nat.add_comm 1 j]using this
  rw[N _ _ l1 (fun j q h1 h2=>by simp[T j q h1 h2];omega)];refine rC _ _ _ (by omega) (by rw[E];exact C) (.inl I)
 |e0::es,s,k,i+1,st,e,hb,E,h,hs,I,m=>by
  have C:=hb e0 (by simp);have D:Below L es:=fun x hx=>hb x (by simp[hx])
  simp only[cM];have hk:decide (k=k+(i+1))=false:=by simp
  simp only[hk,Bool.or_false];have l1:(if s k then fA e0 st else st).heap.length=L:=by
   split
   ·simp only[fA];rw[jY _ _ (by rw[E];exact C),E]
   ·exact E
  have:=mJ es s (k+1) i (if s k then fA e0 st else st) e D l1 (by simpa using h) (by rw[<-hs];congr 1;omega) I (fun j q h0 h1 h2=>by
   have:=m (j+1) q (by omega) (by simpa using h1) h2;rw[<-this];congr 1;omega)
  rw[<-this];simp only[show k+1+i=k+(i+1)by omega]
theorem ug:∀(es:List Ent) (k:Nat) (j:St),cM es (fun _=>false) k j=j:=by
 intro es;induction es with
 |nil=>intro _ _;rfl
 |cons x es m=>intro k j;simp[cM,m]
theorem nU:∀(es:List Ent) (s:Nat->Bool) (k:Nat) (st:St),(cM es s k st).slots.length=st.slots.length
 |[],_,_,_=>rfl
 |e::es,s,k,st=>by
  simp only[cM];split
  ·rw[nU es s (k+1) (fA e st)];exact pD _ _ _
  ·exact nU es s (k+1) st
theorem oR{t:Nat}:∀(es:List Ent) (s:Nat->Bool) (k i:Nat) (st:St) (e:Ent),es[i]?=some e->s (k+i)=false->t∈e.o.dst.toList->
  (∀(j:Nat) (q:Ent),i<j->es[j]?=some q->t∈q.o.dst.toList->s (k+j)=false)->
  (cM es (fun j=>s j||decide (j=k+i)) k st).slots[t]?=(iM (cM es s k st).slots e.o.dst e.v)[t]?
 |[],_,_,_,_,_,h,_,_,_=>by simp at h
 |e0::es,s,k,0,st,e,h,hs,z,m=>by
  simp only[List.getElem?_cons_zero,Option.some.injEq]at h;subst h;simp only[Nat.add_zero]at hs;simp only[cM,Nat.add_zero,hs,Bool.false_eq_true,if_false,decide_true,Bool.false_or,if_true];have D:∀(r:Nat->Bool) (C:St),(∀(j:Nat) (q:Ent),es[j]?=some q->t∈q.o.dst.toList->r (k+1+j)=false)->(cM es r (k+1) C).slots[t]?=C.slots[t]?:=by
   intro r C I;rw[jD (t:=t) es r (fun _=>false) (k+1) C C rfl rfl (fun j q h1 h2=>I j q h1 h2),ug]
  have E:∀(j:Nat) (q:Ent),es[j]?=some q->t∈q.o.dst.toList->s (k+1+j)=false:=fun j q h1 h2=>by
   have:=m (j+1) q (by omega) (by simpa using h1) h2;simpa [Nat.add_assoc,Nat.add_comm 1 j]using this
  rw[D _ _ (fun j q h1 h2=>by simp[E j q h1 h2];omega)];exact ym (by rw[nU]) (.inl z)
 |e0::es,s,k,i+1,st,e,h,hs,z,m=>by
  simp only[cM];have hk:decide (k=k+(i+1))=false:=by simp
  simp only[hk,Bool.or_false];have:=oR es s (k+1) i (if s k then fA e0 st else st) e (by simpa using h) (by rw[<-hs];congr 1;omega) z (fun j q J h1 h2=>by
   have:=m (j+1) q (by omega) (by simpa using h1) h2;rw[<-this];congr 1;omega)
  rw[<-this];simp only[show k+1+i=k+(i+1)by omega]
end Go.Eng


namespace Go.Eng
open Go Go.RowKit
variable[Dr]
theorem B0{H:List Blk}{nid n by_:Nat}{s x:AV}{r:bU}(h:my H nid n by_ s x=some r):
  (∃v ws y,r=.eff v ws/\(nid,y)∈ws)\/∀j,my H j n by_ s x=some r:=by
 unfold my at h;split at h
 ·cases h
 ·rename_i new m q;split at h
  ·split at h
   ·cases h;exact .inl ⟨_,_,_,rfl,by simp;rfl⟩
   ·cases h
  ·split at h
   ·rename_i z;cases h;refine .inr fun j=>?_
    simp only[my,q,z]
   ·cases h
  ·split at h
   ·split at h
    ·cases h;exact .inl ⟨_,_,_,rfl,by simp;exact .inr rfl⟩
    ·cases h
   ·split at h
    ·cases h;exact .inl ⟨_,_,_,rfl,by simp;exact .inr rfl⟩
    ·cases h
   ·cases h
  ·cases h
theorem Ao{P:Program}{H:List Blk}{nid:Nat}{b:Builtin}{at_:Array TypeId}{ty:TypeId}{args:List AV}{r:bU}(h:nK P H nid b at_ ty args=some r):
  (∃v ws y,r=.eff v ws/\(nid,y)∈ws)\/∀j,nK P H j b at_ ty args=some r:=by
 cases b
 case append=>
  match args with
  |[s,x]=>
   simp only[nK]at h ⊢;cases h1:at_[0]? with
   |none=>simp[h1]at h
   |some t=>
    cases h2:at_[1]? with
    |none=>simp[h1,h2]at h
    |some q=>
     simp only[h1,h2]at h ⊢;split at h
     ·split at h
      ·split at h
       ·rename_i n z by_ _ _ _ _ _;rcases B0 h with m|m
        ·exact .inl m
        ·refine .inr fun j=>?_
         exact m j
       ·cases h
      ·cases h
     ·split at h
      ·unfold u6 at h;split at h
       ·split at h
        ·cases h;exact .inl ⟨_,_,_,rfl,by simp;rfl⟩
        ·cases h
       ·cases h
      ·cases h
     ·cases h
  |[]=>exact .inr fun _=>h
  |[_]=>exact .inr fun _=>h
  |_::_::_::_=>exact .inr fun _=>h
 all_goals (refine .inr fun _=>?_;rcases args with _|⟨x,_|⟨y,_|⟨z,l⟩⟩⟩<;>exact h)
theorem xP{P:Program}{ρ:Operand->AV}{H:List Blk}{nid:Nat}{o:Oper}{r:bU}(h:evalOp P ρ H nid o=some r):
  (∃v ws x,r=.eff v ws/\(nid,x)∈ws)\/∀j,evalOp P ρ H j o=some r:=by
 unfold evalOp at h;unfold evalOp;cases m:o.op<;>simp only[m,th,zU,kZ,mc,vN,nF]at h ⊢
 case alloc t=>
  split at h
  ·split at h
   ·cases h;exact .inl ⟨_,_,_,rfl,by simp;rfl⟩
   ·cases h
  ·cases h
 case box t x=>
  split at h
  ·cases h;exact .inl ⟨_,_,_,rfl,by simp;rfl⟩
  ·cases h
 case buildSlice t n ps=>
  split at h
  ·split at h
   ·split at h
    ·split at h
     ·cases h;exact .inl ⟨_,_,_,rfl,by simp;rfl⟩
     ·cases h
    ·cases h
   ·cases h
  ·cases h
 case makeSlice t l c=>
  split at h
  ·split at h
   ·split at h
    ·cases h;exact .inl ⟨_,_,_,rfl,by simp;rfl⟩
    ·cases h
   ·cases h
  ·cases h
 case makeMap t r=>
  unfold qz at h;split at h
  ·cases h;exact .inl ⟨_,_,_,rfl,by simp;rfl⟩
  ·split at h
   ·cases h;exact .inl ⟨_,_,_,rfl,by simp;rfl⟩
   ·cases h
 case range t x=>
  unfold ow at h;split at h
  ·cases h;exact .inl ⟨_,_,_,rfl,by simp;rfl⟩
  ·cases h
 case makeFunc fn q cs=>cases fn<;>first|exact .inr fun _=>h|exact .inr fun _=>by simpa using h
 case slice t x z C mx=>cases mx<;>first|exact .inr fun _=>h|exact .inr fun _=>by simpa using h
 case call c=>
  cases hc:c.callee<;>simp only[hc]at h ⊢
  case value f=>exact .inr fun _=>h
  case builtin b=>exact Ao h
  case invoke=>cases h
 all_goals exact .inr fun _=>h
def pad(L:Nat)(H:List Blk):List Blk:=H++jz (L-H.length)
theorem rG{L:Nat}{H:List Blk}(h:H.length<=L):(pad L H).length=L:=by simp[pad,jz];omega
theorem Aw{L b:Nat}{H:List Blk}(h:b<H.length):(pad L H)[b]?=H[b]?:=by simp only[pad];rw[List.getElem?_append_left h]
theorem FL{H:List Blk}:pad H.length H=H:=by simp[pad,jz]
theorem Ev{L n:Nat}{H:List Blk}(h:H.length+n<=L):pad L (H++jz n)=pad L H:=by
 simp only[pad,jz,List.length_append,List.length_replicate,List.append_assoc,List.replicate_append_replicate];rw[show n+(L-(H.length+n))=L-H.length by omega]
theorem HR{L i:Nat}{H:List Blk}{x:Blk}(C:i<=H.length)(D:(upd H i x).length<=L):pad L (upd H i x)=upd (pad L H) i x:=by
 have z:=dD (x:=x) C;by_cases he:i=H.length
 ·subst he;rw[if_pos rfl]at z;have j:H.length<(pad L H).length:=by rw[rG (by omega)];omega
  unfold upd;rw[if_neg (by omega),if_pos j];simp only[pad,jz,List.length_append,List.length_singleton];rw[List.set_append_right _ _ (Nat.le_refl _),Nat.sub_self];obtain⟨m,hm⟩:∃m,L-H.length=m+1:=⟨L-H.length-1,by omega⟩;rw[hm,show L-(H.length+1)=m by omega,List.replicate_succ,List.set_cons_zero];simp
 ·have j:i<H.length:=by omega
  rw[if_neg he]at z;have q:i<(pad L H).length:=by rw[rG (by omega)];omega
  unfold upd;rw[if_pos j,if_pos q];simp only[pad,List.length_set];rw[List.set_append_left _ _ j]
theorem uv{L:Nat}:∀(ws:List (Nat×Blk)) (H:List Blk),(∀i∈fo ws,i<=H.length)->(aR H ws).length<=L->
  pad L (aR H ws)=aR (pad L H) ws/\H.length<=(aR H ws).length/\∀i∈fo ws,i<(aR H ws).length
 |[],H,_,_=>⟨rfl,Nat.le_refl _,by simp[fo]⟩
 |(i,x)::ws,H,D,E=>by
  have q:i<=H.length:=D i (by simp[fo]);have I:=dD (x:=x) q;have z:H.length<=(upd H i x).length:=by rw[I];split<;>omega
  have C:i<(upd H i x).length:=by rw[I];split<;>omega
  obtain⟨h1,h2,J⟩:=uv ws (upd H i x) (fun j m=>Nat.le_trans (D j (by simp[fo]at m ⊢;exact .inr m)) z) E;refine⟨?_,Nat.le_trans z h2,?_⟩
  ·rw[aR,h1,aR,HR q (Nat.le_trans h2 E)]
  ·intro j m;simp only[fo,List.map_cons,List.mem_cons]at m;rcases m with rfl|m
   ·exact Nat.lt_of_lt_of_le C h2
   ·exact J j m
theorem qb{len:Nat}{e:Ent}(h:nX len e=true):(∀b∈e.rd,b<len)/\(∀i∈fo e.ws,i<=len+e.n/\(0<e.n->i<len+e.n))/\(∀j,j<e.n->len+j∈fo e.ws):=by
 simp only[nX,Bool.and_eq_true,List.all_eq_true,decide_eq_true_eq]at h;obtain⟨h1,h2⟩:=h;refine⟨h1,?_,?_⟩
 ·intro i q;simp only[fo,List.mem_map]at q;obtain⟨p,hp,rfl⟩:=q;cases m:e.n with
  |zero=>simp only[m,List.all_eq_true,decide_eq_true_eq]at h2;exact⟨by have:=h2 p hp;omega,by omega⟩
  |succ n=>simp only[m,Bool.and_eq_true,List.all_eq_true,decide_eq_true_eq]at h2;have:=h2.1 p hp;omega
 ·intro j z;cases m:e.n with
  |zero=>omega
  |succ n=>
   simp only[m,Bool.and_eq_true,List.all_eq_true,decide_eq_true_eq]at h2;have:=h2.2 j (by simp;omega);simpa [fo]using this
theorem Ea{P:Program}{call:eN}{ops:List Oper}{o:Oper}{st st1:St}{e:Ent}{L:Nat}(h:lL P call ops o st=some (st1,some e))(m:nX st.heap.length e=true)(q:st1.heap.length<=L):
  e.o=o/\e.nid=st.heap.length/\st.heap.length<=st1.heap.length/\(∀i∈fo e.ws,i<st1.heap.length)/\fA e ⟨st.slots,pad L st.heap⟩=⟨st1.slots,pad L st1.heap⟩:=by
 obtain⟨_,j,_⟩:=qb m;unfold lL at h;split at h
 ·split at h
  ·rename_i v D;rw[ft]at h;cases h;exact⟨rfl,rfl,Nat.le_refl _,by simp[fo],rfl⟩
  ·rename_i v ws D;rw[ft]at h;cases h;obtain⟨h1,h2,z⟩:=uv (L:=L) ws st.heap (fun i C=>by have:=(j i C).1;simpa using this) q;exact⟨rfl,rfl,h2,z,by simp only[fA,h1]⟩
  ·split at h
   ·rename_i f args _ v ws rd n hc;rw[ft]at h;cases h;simp only at j q;obtain⟨h1,h2,z⟩:=uv (L:=L) ws (st.heap++jz n) (fun i C=>by have:=(j i C).1;simp[jz];omega) q;have hd:(st.heap++jz n).length=st.heap.length+n:=by simp[jz]
    have hle:st.heap.length+n<=L:=by omega
    refine⟨rfl,rfl,by simp only;omega,z,?_⟩;simp only[fA];rw[h1,Ev hle]
   ·rw[ft]at h;cases h
   ·cases h
  ·cases h
 ·rw[ft]at h;cases h;exact⟨rfl,rfl,Nat.le_refl _,by simp[fo],rfl⟩
 ·cases h
theorem mX:∀(es:List Ent) (k j:Nat) (st:St),cM es (fun _=>true) k st=cM es (fun _=>true) j st
 |[],_,_,_=>rfl
 |e::es,k,j,st=>by simp only[cM,if_true];exact mX es _ _ _
theorem wY{P:Program}{call:eN}{ops:List Oper}{L:Nat}:∀(rest:List Oper) (st st':St) (es:List Ent),gU P call ops rest st=some (st',es)->st'.heap.length<=L->
  st.heap.length<=st'.heap.length/\es.length=rest.length/\Below st'.heap.length es/\cM es (fun _=>true) 0 ⟨st.slots,pad L st.heap⟩=⟨st'.slots,pad L st'.heap⟩/\
  ∀(j:Nat) (e:Ent),es[j]?=some e->∃o m st1,rest[j]?=some o/\lL P call ops o m=some (st1,some e)/\nX m.heap.length e=true/\e.o=o/\e.nid=m.heap.length/\st.heap.length<=m.heap.length/\
   m.heap.length<=L/\cM (es.take j) (fun _=>true) 0 ⟨st.slots,pad L st.heap⟩=⟨m.slots,pad L m.heap⟩
 |[],st,st',es,h,E=>by
  cases h;exact⟨Nat.le_refl _,rfl,by simp[Below],rfl,by simp⟩
 |o::rest,st,st',es,h,E=>by
  simp only[gU]at h;split at h
  ·rename_i st1 e h1;split at h
   ·rename_i st2 q z h2;cases h;obtain⟨i1,i2,i3,i4,i5⟩:=wY rest st1 st' q h2 E;obtain⟨N,O,U,T,I⟩:=Ea (L:=L) h1 z (by omega);refine⟨by omega,by simp[i2],?_,?_,?_⟩
    ·intro x hx i J;rcases List.mem_cons.1 hx with rfl|hx
     ·exact Nat.lt_of_lt_of_le (T i J) i1
     ·exact i3 x hx i J
    ·simp only[cM,if_true];rw[I,mX q (0+1) 0,i4]
    ·intro j x C;cases j with
     |zero=>
      simp at C;subst C;exact⟨o,st,st1,rfl,h1,z,N,O,Nat.le_refl _,by omega,rfl⟩
     |succ j=>
      obtain⟨o',m,D,g1,g2,g3,g4,g5,g6,g7,g8⟩:=i5 j x (by simpa using C);refine⟨o',m,D,by simpa using g1,g2,g3,g4,g5,by omega,g7,?_⟩;simp only[List.take_succ_cons,cM,if_true];rw[I,mX _ (0+1) 0,g8]
   ·cases h
  ·cases h
theorem ud:∀(es:List Ent) (i k:Nat) (st:St),cM es (fun j=>decide (j<k+i)) k st=cM (es.take i) (fun _=>true) k st
 |[],i,k,st=>by simp[cM]
 |e::es,0,k,st=>by
  have:∀(es:List Ent) (m:Nat) (st:St),k<=m->cM es (fun j=>decide (j<k+0)) m st=st:=by
   intro es;induction es with
   |nil=>intro _ _ _;rfl
   |cons x es q=>intro m st hm;simp only[cM];rw[if_neg (by simp;omega)];exact q (m+1) st (by omega)
  rw[this _ k st (Nat.le_refl _)];rfl
 |e::es,i+1,k,st=>by
  simp only[cM,List.take_succ_cons,if_true];rw[if_pos (by simp)];have:=ud es i (k+1) (fA e st);rw[<-this];congr 1;funext j;congr 1;simp only[eq_iff_iff];omega
end Go.Eng


namespace Go.Eng
open Go Go.RowKit
variable[Dr]
theorem qn(acc:List Nat)(i:Nat):∀(l:List Edge) (s:Nat),(l.foldl (fun s e=>if Region.binds .any e then s ||| (2^e.on ||| acc.getD e.on 0)else s) s).testBit i=true->
  s.testBit i=true\/∃e∈l,Region.binds .any e=true/\(e.on=i\/(acc.getD e.on 0).testBit i=true)
 |[],_,h=>.inl h
 |e::l,s,h=>by
  simp only[List.foldl_cons]at h;rcases qn acc i l _ h with h|⟨j,h1,h2⟩
  ·split at h
   ·rename_i hb;simp only[Nat.testBit_or,Bool.or_eq_true]at h;rcases h with h|h|h
    ·exact .inl h
    ·refine .inr ⟨e,by simp,hb,.inl ?_⟩;rw[Nat.testBit_two_pow]at h;simpa using h
    ·exact .inr ⟨e,by simp,hb,.inr h⟩
   ·exact .inl h
  ·exact .inr ⟨j,by simp[h1],h2⟩
theorem sZ:∀(l:List Oper) (acc:List Nat) (j:Nat),j<acc.length->(uI acc l)[j]?=acc[j]?
 |[],_,_,_=>rfl
 |o::l,acc,j,h=>by
  rw[uI,sZ l _ j (by simp;omega),List.getElem?_append_left h]
theorem BR:∀(l:List Oper) (acc:List Nat) (j:Nat) (o:Oper),l[j]?=some o->∃m,(uI acc l)[acc.length+j]?=some (xA m o)/\m.length=acc.length+j/\∀k,k<m.length->(uI acc l)[k]?=m[k]?
 |[],_,_,_,h=>by simp at h
 |o::l,acc,0,o',h=>by
  simp at h;subst h;refine⟨acc,?_,rfl,fun k hk=>sZ (o::l) acc k hk⟩;rw[uI,sZ l _ _ (by simp)];simp
 |o::l,acc,j+1,o',h=>by
  obtain⟨m,h1,h2,q⟩:=BR l (acc++[xA acc o]) j o' (by simpa using h);refine⟨m,?_,by simp at h2;omega,fun k hk=>by rw[uI];exact q k hk⟩;rw[uI];simpa [Nat.add_assoc,Nat.add_comm 1 j]using h1
theorem sa:∀(l:List Oper) (k j:Nat) (o:Oper),rH l k=true->l[j]?=some o->∀e∈o.after.toList,Region.binds .any e=true->e.on<k+j
 |[],_,_,_,_,h=>by simp at h
 |o::l,k,0,o',hk,h=>by
  simp at h;subst h;simp only[rH,Bool.and_eq_true,List.all_eq_true]at hk;intro e he hb;have:=hk.1 e he;simpa [hb]using this
 |o::l,k,j+1,o',hk,h=>by
  simp only[rH,Bool.and_eq_true]at hk;intro e he hb;have:=sa l (k+1) j o' hk.2 (by simpa using h) e he hb;omega
theorem sY{ops:List Oper}(I:rH ops 0=true){s:Nat->Bool}(J:∀(j:Nat) (o:Oper),ops[j]?=some o->s j=true->∀e∈o.after.toList,Region.binds .any e=true->s e.on=true):
  ∀(j:Nat) (o:Oper),ops[j]?=some o->(∀e∈o.after.toList,Region.binds .any e=true->s e.on=true)->∀i,((uI [] ops).getD j 0).testBit i=true->s i=true:=by
 intro j;induction j using Nat.strongRecOn with
 |_ j U=>
  intro o N he i O;obtain⟨z,h1,h2,Y⟩:=BR ops [] j o N;simp only[List.length_nil,Nat.zero_add]at h1 h2;rw[List.getD_eq_getElem?_getD,h1]at O;simp only[Option.getD_some,xA]at O;rcases qn z i _ _ O with h|⟨e,C,D,m⟩
  ·simp at h
  ·have E:=he e C D;rcases m with rfl|m
   ·exact E
   ·have T:e.on<j:=by have:=sa ops 0 j o I N e C D;omega
    cases q:ops[e.on]? with
    |none=>
     have:=List.getElem?_eq_none_iff.1 q;have:=(List.getElem?_eq_some_iff.1 N).1;omega
    |some o'=>
     refine U e.on T o' q (J e.on o' q E) i ?_;rw[List.getD_eq_getElem?_getD,Y e.on (by omega),<-List.getD_eq_getElem?_getD];exact m
theorem uR{ops:List Oper}{b:Ent}{m:Nat}:∀(l:List Ent) (k i:Nat) (a:Ent),sR ops b m l k=true->l[i]?=some a->(m.testBit (k+i)=true\/B9 ops a b=true\/tJ ops a b (l.drop (i+1))=true)/\∀p∈a.ws,p.1<b.nid
 |[],_,_,_,_,h=>by simp at h
 |x::l,k,0,a,j,h=>by
  simp at h;subst h;simp only[sR,Bool.and_eq_true,Bool.or_eq_true,List.all_eq_true,decide_eq_true_eq]at j;exact⟨by simpa [or_assoc]using j.1.1,j.1.2⟩
 |x::l,k,i+1,a,j,h=>by
  simp only[sR,Bool.and_eq_true]at j;have:=uR l (k+1) i a j.2 (by simpa using h);rwa[show k+1+i=k+(i+1)by omega]at this
theorem pz{ops:List Oper}{m:List Nat}{all:List Ent}:∀(l:List Ent) (k j i:Nat) (a b:Ent),pr ops m all l k=true->l[j]?=some b->i<k+j->all[i]?=some a->
  ((m.getD (k+j) 0).testBit i=true\/B9 ops a b=true\/tJ ops a b ((all.take (k+j)).drop (i+1))=true)/\∀p∈a.ws,p.1<b.nid
 |[],_,_,_,_,_,_,h,_,_=>by simp at h
 |x::l,k,0,i,a,b,q,h,z,ha=>by
  simp at h;subst h;simp only[pr,Bool.and_eq_true]at q;have:=uR _ 0 i a q.1 (by rw[List.getElem?_take,if_pos (by omega)];exact ha);simpa using this
 |x::l,k,j+1,i,a,b,q,h,z,ha=>by
  simp only[pr,Bool.and_eq_true]at q;have:=pz l (k+1) j i a b q.2 (by simpa using h) (by omega) ha;rwa[show k+1+j=k+(j+1)by omega]at this
theorem lM{l k:List Nat}(h:tX l k=true){x:Nat}(hx:x∈l):x∉k:=by
 simp only[tX,List.all_eq_true,Bool.not_eq_true',List.contains_eq_mem]at h;have:=h x hx;simpa using this
theorem yG{l:List Operand}{t:Tmp}(h:Operand.tmp t∈l):t∈CZ l:=by
 simp only[CZ,List.mem_filterMap];exact⟨_,h,rfl⟩
theorem zH{s r:List AV}{x:Operand}(h:∀t,x=.tmp t->s[t]?=r[t]?):evA s x=evA r x:=by
 cases x with
 |tmp t=>simp only[evA,uU,List.getD_eq_getElem?_getD,h t rfl]
 |_=>rfl
theorem zk{ops:List Oper}{o:Oper}{s r:List AV}(h:∀t∈fl ops o,s[t]?=r[t]?):dK ops o s=dK ops o r:=by
 unfold dK;cases m:o.guard with
 |none=>rfl
 |some g=>
  obtain⟨j,want⟩:=g;simp only;cases q:ops[j]? with
  |none=>rfl
  |some oj=>
   simp only;cases hd:oj.dst with
   |none=>rfl
   |some d=>
    simp only;have:s[d]?=r[d]?:=h d (by simp[fl,m,q,hd]);simp only[uU,List.getD_eq_getElem?_getD,this]
theorem CF{P:Program}(Y:ui P){call:eN}(a1:iJ P call){ops:Array Oper}{o:Oper}{z st1 D:St}{e:Ent}(h:lL P call ops.toList o z=some (st1,some e))(b1:nX z.heap.length e=true)
  (hle:z.heap.length+e.n<=D.heap.length) (hs:∀t∈fl ops.toList o,D.slots[t]?=z.slots[t]?) (hh:(∀b∈e.rd,D.heap[b]?=z.heap[b]?)\/((∃t m k,o.op=.lookup t m k false)/\∀r,evalOp P (evA z.slots) z.heap z.heap.length o=some r->evalOp P (evA z.slots) D.heap z.heap.length o=some r))
  {out:Nat->Prop} {B:Nat->Prop} {w:World} {π:List (Option PB)} {a:Act} (C:Rep out B w π D a) (E:∀b∈fo e.ws,z.heap.length<=b->∀q,π[b]?≠some (some q))
  {K:Act->World->Prop} {Q:Exit->Act->World->Prop}
  (hK:∀a' w' π',Rep out B w' π' (fA e D) a'->Ext B w w' (aL out π D.heap) (aL out π' (fA e D).heap) π π'->(∀j,j∉fo e.ws->π'[j]?=π[j]?)->K a' w'):
  if Region.wanted o (yielded ops a.tmps)then o.wp P a w K Q\/(o.asks P a w/\LetsOut Q)else K (a.put o.dst undef) w:=by
 obtain⟨b3,a6,U⟩:=qb b1;have I:∀{ws:List (Nat×Blk)} {π':List (Option PB)},(∀j,(∀b,(j,b)∉ws)->π'[j]?=π[j]?)->∀j,j∉fo ws->π'[j]?=π[j]?:=by
  intro ws π' hk j hj;refine hk j fun b hb=>hj ?_
  simp only[fo,List.mem_map];exact⟨_,hb,rfl⟩
 have a7:dK ops.toList o D.slots=dK ops.toList o z.slots:=zk hs;have a8:∀x∈o.op.operands.toList,evA z.slots x=evA D.slots x:=by
  intro x hx;refine(zH fun t ht=>?_).symm;subst ht;exact hs t (by simp only[fl,List.mem_append];exact .inl (yG hx))
 unfold lL at h;split at h
 ·rename_i hw;rw[<-a7]at hw;rw[if_pos (nt C.slots hw)];refine .inl ?_;unfold Oper.wp;have N:∀r,evalOp P (evA z.slots) z.heap z.heap.length o=some r->((∀b∈rF z.heap (evA z.slots) o,D.heap[b]?=z.heap[b]?)\/((∃t m k,o.op=.lookup t m k false)/\∀r,evalOp P (evA z.slots) z.heap z.heap.length o=some r->evalOp P (evA z.slots) D.heap z.heap.length o=some r))->evalOp P (evA D.slots) D.heap z.heap.length o=some r:=by
   intro r hr hb;rw[<-yr a8];rcases hb with hb|⟨_,hb⟩
   ·rw[<-hr];exact(Bc fun b hm=>(hb b hm).symm).symm
   ·exact hb r hr
  split at h
  ·rename_i v T;rw[ft]at h;cases h;have J:=N _ T hh;rcases xP J with⟨_,_,_,e1,_⟩|O
   ·cases e1
   obtain⟨nx,u,h1,h2,h3⟩:=lk Y C.inv (Nat.le_refl _) (tz C.inv) (kV C.slots) (O D.heap.length);rw[h1];rcases h2 with rfl|⟨rfl,rfl⟩
   ·exact hK _ _ π (Rep.ext C.defers C.slots (Ext.refl _ _ _) C.inv h3) (Ext.refl _ _ _) fun _ _=>rfl
   ·exact hK _ _ π (Rep.ext C.defers C.slots (Ext.refl _ _ _) C.inv h3) (Ext.refl _ _ _) fun _ _=>rfl
  ·rename_i v ws T;rw[ft]at h;cases h;have J:=N _ T hh;have:∃n,n<=D.heap.length/\(∀q,π[n]?≠some (some q))/\evalOp P (evA D.slots) D.heap n o=some (.eff v ws):=by
    rcases xP J with⟨_,_,y,e1,h0⟩|O
    ·cases e1;refine⟨z.heap.length,by simp only at hle;omega,E _ ?_ (Nat.le_refl _),J⟩;simp only[fo,List.mem_map];exact⟨_,h0,rfl⟩
    ·exact⟨D.heap.length,Nat.le_refl _,tz C.inv,O _⟩
   obtain⟨n,hn,hf,b0⟩:=this;obtain⟨nx,u,w',π',h1,h2,h3,h4,h5,h6⟩:=lk Y C.inv hn hf (kV C.slots) b0;rw[h1];rcases h2 with rfl|⟨rfl,rfl⟩
   ·exact hK _ _ π' (Rep.ext C.defers C.slots h3 h4 h5) h3 (I h6)
   ·exact hK _ _ π' (Rep.ext C.defers C.slots h3 h4 h5) h3 (I h6)
  ·rename_i f args T;have J:evalOp P (evA D.slots) D.heap D.heap.length o=some (.call f args):=by
    have e1:evalOp P (evA D.slots) z.heap z.heap.length o=some (.call f args):=by rw[<-yr a8];exact T
    unfold evalOp at e1 ⊢;cases ho:o.op<;>simp only[ho]at e1 ⊢
    case call c=>
     unfold vN at e1 ⊢;cases hc:c.callee<;>simp only[hc]at e1 ⊢
     case value g=>exact e1
     case builtin b=>
      exfalso;unfold nK at e1;split at e1
      ·split at e1
       ·unfold bU.ofP at e1;split at e1<;>cases e1
       ·cases e1
      ·split at e1
       ·split at e1
        ·split at e1
         ·split at e1
          ·unfold my at e1;split at e1
           ·cases e1
           ·split at e1
            ·split at e1<;>cases e1
            ·split at e1<;>cases e1
            ·split at e1
             ·split at e1<;>cases e1
             ·split at e1<;>cases e1
             ·cases e1
            ·cases e1
          ·cases e1
         ·cases e1
        ·split at e1
         ·unfold u6 at e1;(repeat' split at e1)<;>cases e1
         ·cases e1
        ·cases e1
       ·cases e1
      ·split at e1
       ·split at e1
        ·split at e1
         ·unfold yR at e1;(repeat' split at e1)<;>cases e1
         ·cases e1
        ·cases e1
       ·cases e1
      ·split at e1
       ·split at e1
        ·split at e1
         ·unfold ua at e1;(repeat' split at e1)<;>cases e1
         ·cases e1
        ·cases e1
       ·cases e1
      ·split at e1
       ·split at e1<;>cases e1
       ·cases e1
      ·split at e1
       ·split at e1<;>cases e1
       ·cases e1
      ·split at e1
       ·split at e1<;>cases e1
       ·cases e1
      ·cases e1
     case invoke=>cases e1
    case makeFunc fn fs cs=>exfalso;cases fn<;>simp[nF]at e1
    case slice t x lo hi mx=>
     exfalso;cases mx with
     |some m=>simp[nF]at e1
     |none=>simp only[vJ,bU.ofP]at e1;(repeat' split at e1)<;>cases e1
    case makeMap t r=>
     exfalso;simp only[nF,qz]at e1;(repeat' split at e1)<;>cases e1
    case lookup t x ix ok=>
     exfalso;simp only[nF,bU.ofP]at e1;(repeat' split at e1)<;>cases e1
    case mapUpdate t m k x=>
     exfalso;simp only[nF,gW]at e1;(repeat' split at e1)<;>cases e1
    case insert t m k x=>
     exfalso;simp only[nF,gW]at e1;(repeat' split at e1)<;>cases e1
    case mapEntry t m k=>
     exfalso;simp only[nF,nu]at e1;(repeat' split at e1)<;>cases e1
    case entryStore t m k x=>
     exfalso;simp only[nF,mD]at e1;(repeat' split at e1)<;>cases e1
    case range t x=>
     exfalso;simp only[nF,ow]at e1;(repeat' split at e1)<;>cases e1
    case entry it=>
     exfalso;simp only[nF,jE]at e1;(repeat' split at e1)<;>cases e1
    all_goals exfalso
    all_goals try simp only[nF,x7,th,zU,va,kZ,vv,oX,qk,mc,bU.ofP,FQ]at e1
    all_goals (repeat' split at e1)<;>first|cases e1|skip
   obtain⟨vs,h1,h2⟩:=lk Y C.inv (Nat.le_refl _) (tz C.inv) (kV C.slots) J;rw[h1];simp only[Oper.upon];split at h
   ·rename_i v ws rd n hc;rw[ft]at h;cases h;simp only at U a6 hle E;have hh:=hh.resolve_right fun hx=>by
     obtain⟨⟨t,m,k,ht⟩,_⟩:=hx;unfold evalOp at T;rw[ht]at T;simp only[nF,bU.ofP]at T
     (repeat' split at T)<;>cases T
    have:=a1 _ _ _ _ hc D.heap hle (fun b hb _=>hh b hb) out B w π vs.toList C.inv (fun j g1 g2=>E j (by
      have:=U (j-z.heap.length) (by omega);rwa[show z.heap.length+(j-z.heap.length)=j by omega]at this) g1) h2
    rw[Array.toArray_toList]at this;refine this.mono ?_;rintro e b4 ⟨u,π',rfl,g1,g2,g3,g4⟩;exact hK _ _ π' (Rep.ext C.defers C.slots g1 g2 g3) g1 (I g4)
   ·rw[ft]at h;cases h
   ·cases h
  ·cases h
 ·rename_i hw;rw[<-a7]at hw;rw[nt C.slots hw];simp only[Bool.false_eq_true,if_false];rw[ft]at h;cases h;exact hK _ _ π (Rep.ext C.defers C.slots (Ext.refl _ _ _) C.inv rfl) (Ext.refl _ _ _) fun _ _=>rfl
 ·cases h
theorem getD_set_true{l:Array Bool}{i j:Nat}(m:i<l.size):(l.setIfInBounds i true).getD j false=(l.getD j false||decide (j=i)):=by
 simp only[Array.getD_eq_getD_getElem?,Array.getElem?_setIfInBounds];by_cases h:i=j
 ·subst h;simp[m]
 ·have q:¬j=i:=fun e=>h e.symm
  simp[h,q]
theorem getD_none{n:Nat}(i:Nat):(Array.replicate n false).getD i false=false:=by
 rw[Array.getD_eq_getD_getElem?,Array.getElem?_replicate];split<;>rfl
theorem GO{l:Array Bool}{i:Nat}(h:l.getD i true=false):i<l.size/\l.getD i false=false:=by
 rw[Array.getD_eq_getD_getElem?]at h ⊢;cases j:l[i]? with
 |none=>rw[j]at h;simp at h
 |some x=>rw[j]at h;exact⟨(Array.getElem?_eq_some_iff.1 j).1,by simpa using h⟩
theorem zV{ops:List Oper}{a b:Ent}{j:List Ent}(h:tJ ops a b j=true):a.ws=[]/\tX a.o.dst.toList (fl ops b.o)=true/\tX a.o.dst.toList b.o.dst.toList=true/\tX b.o.dst.toList (fl ops a.o)=true:=by
 unfold tJ at h;split at h
 ·simp only[Bool.and_eq_true]at h;obtain⟨⟨⟨⟨⟨_,m⟩,q⟩,z⟩,C⟩,_⟩:=h;exact⟨List.isEmpty_iff.1 m,q,z,C⟩
 ·cases h
theorem uV{ops:List Oper}{es:List Ent}(z:pr ops (uI [] ops) es es 0=true){i j:Nat}{a b:Ent}(E:i<j)(ha:es[i]?=some a)(hb:es[j]?=some b)
  (hm:(∃x,x∈fo a.ws/\(x∈b.rd\/x∈fo b.ws))\/(∃t,t∈a.o.dst.toList/\(t∈fl ops b.o\/t∈b.o.dst.toList))\/(∃t,t∈b.o.dst.toList/\t∈fl ops a.o)):
  ((uI [] ops).getD j 0).testBit i=true:=by
 have:=(pz es 0 j i a b z hb (by omega) ha).1;rw[Nat.zero_add]at this;rcases this with h|h|h
 ·exact h
 ·exfalso;simp only[B9,Bool.and_eq_true]at h;obtain⟨⟨⟨⟨⟨h1,h2⟩,D⟩,I⟩,J⟩,O⟩:=h;rcases hm with⟨x,hx,C|C⟩|⟨t,q,m|m⟩|⟨t,q,m⟩
  ·exact lM I hx C
  ·exact lM J hx C
  ·exact lM h1 q m
  ·exact lM h2 q m
  ·exact lM D q m
 ·exfalso;obtain⟨N,h1,h2,D⟩:=zV h;rcases hm with⟨x,hx,_⟩|⟨t,q,m|m⟩|⟨t,q,m⟩
  ·rw[N]at hx;simp[fo]at hx
  ·exact lM h1 q m
  ·exact lM h2 q m
  ·exact lM D q m
theorem Gi{ops:List Oper}{es:List Ent}(m:pr ops (uI [] ops) es es 0=true){i j:Nat}{a b:Ent}(q:i<j)(ha:es[i]?=some a)(hb:es[j]?=some b){x:Nat}(hx:x∈fo b.ws)(z:x∈a.rd):
  ((uI [] ops).getD j 0).testBit i=true\/tJ ops a b ((es.take j).drop (i+1))=true:=by
 have:=(pz es 0 j i a b m hb (by omega) ha).1;rw[Nat.zero_add]at this;rcases this with h|h|h
 ·exact .inl h
 ·exfalso;simp only[B9,Bool.and_eq_true]at h;exact lM h.2 hx z
 ·exact .inr h
theorem zq:∀(l:List Value),vz l=true->qY l l=some true
 |[],_=>rfl
 |.int k x::l,h=>by
  have hk:IntKind.ux k k=true\/IntKind.ux k k=false:=by cases IntKind.ux k k<;>simp
  have hk:IntKind.ux k k=true:=by cases k<;>first|rfl|(simp[vz]at h;done)
  simp only[qY,hk,zq l (by simpa [vz]using h)];simp
theorem ET{P:Program}{t:TypeId}{k:Value}(h:jX P t k=true):kEq k k=some true:=by
 unfold jX at h;split at h
 ·rename_i m j n hu;have hk:IntKind.ux j j=true:=by
   have:=IntKind.ot h;subst this;exact h
  simp[kEq,hk]
 ·simp[kEq]
 ·rename_i d a _;have:vz a.toList=true:=by
   unfold ov at h;split at h
   ·simp only[Bool.and_eq_true]at h;exact h.2
   ·simp only[Bool.and_eq_true]at h;exact h.1.2
   ·cases h
  simp only[kEq,zq _ this]
 ·cases h
theorem Ir{k v:Value}(h:kEq k v=some true):v=k:=by
 unfold kEq at h;split at h
 ·rename_i a b;obtain⟨h1,_⟩:=wm _ _ h;rw[Array.toList_inj.1 h1]
 ·split at h
  ·rename_i hb;have e:=IntKind.ot hb;subst e;simp only[Option.some.injEq,beq_iff_eq]at h;rw[h]
  ·cases h
 ·simp only[Option.some.injEq,beq_iff_eq]at h;rw[h]
 ·cases h
theorem xd{k:Value}:∀(es:List (Value×AV)) (i0 i:Nat) (A:AV),mf k es i0=some (some (i,A))->∃j,i=i0+j/\es[j]?=some (k,A)
 |[],_,_,_,h=>by simp[mf]at h
 |(k',m)::es,i0,i,A,h=>by
  simp only[mf]at h;split at h
  ·rename_i hk;cases h;exact⟨0,rfl,by rw[Ir hk];rfl⟩
  ·obtain⟨j,h1,h2⟩:=xd es (i0+1) i A h;exact⟨j+1,by omega,by simpa using h2⟩
  ·cases h
theorem y0{k:Value}{z:AV}(hk:kEq k k=some true):∀(es:List (Value×AV)) (i0:Nat),mf k es i0=some none->mf k (es++[(k,z)]) i0=some (some (i0+es.length,z))
 |[],i0,_=>by simp[mf,hk]
 |(k',j)::es,i0,h=>by
  simp only[mf]at h;simp only[List.cons_append,mf];split at h
  ·cases h
  ·rw[y0 hk es (i0+1) h];congr 3;simp;omega
  ·cases h
theorem BI{P:Program}{H H':List Blk}{t:TypeId}{x k:AV}{A:AV}(C:eK P H t x k false=some A){b:Nat}(hx:x=.mp b){H1:List Blk}(h1:H1[b]?=H[b]?){v:AV}{ws:List (Nat×Blk)}(he:nu P H1 t x k=some (.eff v ws)):
  ∃X,ws=[(b,X)]/\(H'[b]?=some X->eK P H' t x k false=some A):=by
 subst hx;unfold nu at he;unfold eK at C;have hm:lq H1 (.mp b)=lq H (.mp b):=by simp only[lq,h1]
 rw[hm]at he;split at C
 ·rename_i kt e b' es kv hu m D;obtain⟨a1,rfl⟩:H[b]?=some (.map es)/\b'=b:=by
   simp only[lq]at m;split at m
   ·rename_i es' O;cases m;exact⟨O,rfl⟩
   ·cases m
  rw[hu,m,D]at he;simp only at he;split at C
  ·rename_i z i U hk I E;rw[hk,I,E]at he;simp only at he;cases he;refine⟨_,rfl,fun N=>?_⟩;obtain⟨j,Y,hg⟩:=xd es 0 i U E;have J:es.set i (kv,U)=es:=by
    rw[Nat.zero_add]at Y;subst Y;apply List.ext_getElem?;intro q;rw[List.getElem?_set];split
    ·rename_i hq;subst hq;rw[if_pos (List.getElem?_eq_some_iff.1 hg).1,hg]
    ·rfl
   rw[J]at N;simp only[eK,hu,lq,N,D,hk,I,E];exact C
  ·rename_i z hk I E;rw[hk,I,E]at he;simp only at he;cases he;refine⟨_,rfl,fun N=>?_⟩;have T:=y0 (z:=z) (ET hk) es 0 E;simp only[eK,hu,lq,N,D,hk,I,T];exact C
  ·cases C
 ·cases C
theorem Cy{P:Program}(o8:ui P)(hm:P.follows .mixedOrders=true){call:eN}(j5:iJ P call){ops:Array Oper}{id:Nat}{st st':St}(h:kJ P call ops.toList true st=some st')
  {out:Nat->Prop} {B:Nat->Prop} {w:World} {π:List (Option PB)} {a:Act} (hR:Rep out B w π st a) {Q:Exit->Act->World->Prop}
  (hQ:∀a' w' π',Rep out B w' π' st' a'->Ext B w w' (aL out π st.heap) (aL out π' st'.heap) π π'->Q .normal a' w'):(Code.region id ops true).wp P Q a w:=by
 unfold kJ at h;simp only at h;split at h
 ·rename_i r7 es o9;split at h
  ·rename_i l6;cases h;simp only[Bool.and_eq_true]at l6;obtain⟨b3,b4⟩:=l6;obtain⟨L,c5⟩:∃L,L=st'.heap.length:=⟨_,rfl⟩;obtain⟨t1,t2,t3,t4,t5⟩:=wY (L:=L) ops.toList st st' es o9 (by omega);rw[<-c5]at t3;obtain⟨D,a8⟩:∃D:St,D=⟨st.slots,pad L st.heap⟩:=⟨_,rfl⟩;have E:D.heap.length=L:=by rw[a8];exact rG (by omega)
   obtain⟨j6,l7⟩:=hR.inv.same (w':={w with drawn:=w.drawn+1}) rfl rfl rfl rfl (fun _=>Nat.le_succ _);obtain⟨j7,e7⟩:=l7.extend (L-st.heap.length);obtain⟨π0,hπ0⟩:∃π0,π0=π++List.replicate (L-st.heap.length) none:=⟨_,rfl⟩;rw[<-hπ0]at j7 e7;have p1:Rep out B {w with drawn:=w.drawn+1} π0 D a:=by
    rw[a8];exact⟨hR.defers,RvL.ext e7 _ _ (RvL.ext j6 _ _ hR.slots),j7⟩
   have c6:∀b,st.heap.length<=b->∀q,π0[b]?≠some (some q):=by
    intro b hb q hq;have:=hR.inv.len;rw[hπ0,List.getElem?_append_right (by omega)]at hq;have:=List.mem_of_getElem? hq;simp at this
   have l8:Ext B w {w with drawn:=w.drawn+1} (aL out π st.heap) (aL out π0 D.heap) π π0:=by rw[a8];exact j6.trans e7
   clear e7 j6 l7 j7;refine wp_region_any hm ?_;have key:∀(fuel:Nat) (C:Array Bool) (a:Act) (w1:World) (π1:List (Option PB)),C.size=ops.size->((List.range ops.size).countP fun i=>!C.getD i false)=fuel->
     (∀(j:Nat) (o:Oper),ops.toList[j]?=some o->C.getD j false=true->∀e∈o.after.toList,Region.binds .any e=true->C.getD e.on false=true)->
     Rep out B w1 π1 (cM es (fun j=>C.getD j false) 0 D) a->
     Ext B w w1 (aL out π st.heap) (aL out π1 (cM es (fun j=>C.getD j false) 0 D).heap) π π1->
     (∀b,st.heap.length<=b->(∀(j:Nat) (e:Ent),es[j]?=some e->C.getD j false=true->b∉fo e.ws)->∀q,π1[b]?≠some (some q))->
     wpAny P .any ops Q fuel C a w1:=by
    intro fuel;induction fuel with
    |zero=>
     intro C a w1 π1 l9 b5 b9 e8 e9 j8;have j2:∀i,i<ops.size->C.getD i false=true:=by
      intro i hi;rw[List.countP_eq_zero]at b5;have:=b5 i (by simpa using hi);simpa using this
     have c7:cM es (fun j=>C.getD j false) 0 D=st':=by
      have e1:cM es (fun j=>C.getD j false) 0 D=cM es (fun _=>true) 0 D:=by
       have hs:∀(j:Nat) (e:Ent),es[j]?=some e->C.getD (0+j) false=true:=fun j e he=>by
        rw[Nat.zero_add];exact j2 j (by have:=aT he;rw[t2]at this;simpa using this)
       have l1:=oD es (fun j=>C.getD j false) 0 D t3 E;have l2:=oD es (fun _=>true) 0 D t3 E;have j9:(cM es (fun j=>C.getD j false) 0 D).slots=(cM es (fun _=>true) 0 D).slots:=
        List.ext_getElem? fun t=>jD es _ _ 0 D D rfl rfl fun j e he _=>hs j e he
       have k0:(cM es (fun j=>C.getD j false) 0 D).heap=(cM es (fun _=>true) 0 D).heap:=
        List.ext_getElem? fun b=>jN es _ _ 0 D D t3 E E rfl fun j e he _=>hs j e he
       cases hA:cM es (fun j=>C.getD j false) 0 D;cases hB:cM es (fun _=>true) 0 D;rw[hA,hB]at j9 k0;simp only at j9 k0;rw[j9,k0]
      rw[e1,a8,t4,c5,FL]
     refine⟨?_,?_⟩
     ·unfold Region.ready;rw[List.filter_eq_nil_iff];intro i hi;have p2:i<ops.size:=by simpa using hi
      have h1:=j2 i p2;have h2:C.getD i true=true:=by
       rw[Array.getD_eq_getD_getElem?]at h1 ⊢;cases hl:C[i]? with
       |none=>rfl
       |some x=>rw[hl]at h1;simpa using h1
      simp[h2]
     ·rw[c7]at e8 e9;exact hQ a w1 π1 e8 e9
    |succ fuel ih=>
     intro C a w1 π1 l9 b5 b9 e8 e9 j8;refine⟨?_,?_⟩
     ·
      intro n0;exfalso;have hex:∃i,i<ops.size/\C.getD i false=false:=by
       have j3:0<(List.range ops.size).countP fun i=>!C.getD i false:=by omega
       rw[List.countP_pos_iff]at j3;obtain⟨i,h1,h2⟩:=j3;exact⟨i,by simpa using h1,by simpa using h2⟩
      have n1:∃i,i<ops.size/\C.getD i false=false/\∀k,k<i->C.getD k false=true:=by
       obtain⟨i,h1,h2⟩:=hex;induction i using Nat.strongRecOn with
       |_ i p3=>
        by_cases hk:∃k,k<i/\C.getD k false=false
        ·obtain⟨k,k1,k2⟩:=hk;exact p3 k k1 (by omega) k2
        ·exact⟨i,h1,h2,fun k p4=>by
          cases hv:C.getD k false with
          |true=>rfl
          |false=>exact(hk ⟨k,p4,hv⟩).elim⟩
      obtain⟨i,h1,h2,h3⟩:=n1;have a6:i∈Region.ready .any ops C:=by
       unfold Region.ready;rw[List.mem_filter];refine⟨by simpa using h1,?_⟩;have N:i<C.size:=by omega
       have e1:C.getD i true=false:=by
        rw[Array.getD_eq_getD_getElem?]at h2 ⊢;rw[Array.getElem?_eq_getElem N]at h2 ⊢;simpa using h2
       have e2:ops[i]?=some ops[i]:=Array.getElem?_eq_getElem h1;rw[e1,e2];simp only[Bool.not_false,Bool.true_and,Option.map_some,Option.getD_some,Array.all_eq_true'];intro e he;cases hb:Region.binds .any e with
       |false=>rfl
       |true=>
        have:=sa ops.toList 0 i ops[i] b3 (by simp[h1]) e (by simpa using he) hb;simp only[Bool.not_true,Bool.false_or];exact h3 _ (by omega)
      rw[n0]at a6;cases a6
     ·intro i hi;unfold Region.ready at hi;rw[List.mem_filter]at hi;obtain⟨c8,h6⟩:=hi;have c8:i<ops.size:=by simpa using c8
      simp only[Bool.and_eq_true,Bool.not_eq_true']at h6;obtain⟨h6,k3⟩:=h6;obtain⟨b1,T⟩:=GO h6;obtain⟨o,ho⟩:∃o,ops[i]?=some o:=⟨ops[i],Array.getElem?_eq_getElem c8⟩;have k4:ops.toList[i]?=some o:=by rw[Array.getElem?_toList];exact ho
      rw[ho]at k3;simp only[Option.map_some,Option.getD_some,Array.all_eq_true']at k3;have c9:∀e∈o.after.toList,Region.binds .any e=true->C.getD e.on false=true:=by
       intro e he hb;have:=k3 e (by simpa using he);simpa [hb]using this
      obtain⟨e,he⟩:∃e,es[i]?=some e:=by
       have:i<es.length:=by rw[t2];simpa using c8
       exact⟨es[i],geT this⟩
      obtain⟨o2,I,st1,g1,g2,g3,g4,g5,g6,g7,g8⟩:=t5 i e he;rw[k4]at g1;cases g1;subst g4;have U:∀j b,j<i->es[j]?=some b->((∃x,x∈fo b.ws/\(x∈e.rd\/x∈fo e.ws))\/(∃t,t∈b.o.dst.toList/\(t∈fl ops.toList e.o\/t∈e.o.dst.toList))\/(∃t,t∈e.o.dst.toList/\t∈fl ops.toList b.o))->
        C.getD j false=true:=by
       intro j b hj hb k5;have b6:=uV b4 hj hb he k5;exact sY b3 (s:=fun j=>C.getD j false) b9 i e.o k4 c9 j b6
      have J:∀j b,i<j->es[j]?=some b->((∃x,x∈fo e.ws/\(x∈b.rd\/x∈fo b.ws))\/(∃t,t∈e.o.dst.toList/\(t∈fl ops.toList b.o\/t∈b.o.dst.toList))\/(∃t,t∈b.o.dst.toList/\t∈fl ops.toList e.o))->
        C.getD j false=false:=by
       intro j b hj hb k5;have b6:=uV b4 hj he hb k5;cases hv:C.getD j false with
       |false=>rfl
       |true=>
        have b7:j<ops.toList.length:=by rw[<-t2];exact aT hb
        have:=sY b3 (s:=fun j=>C.getD j false) b9 j ops.toList[j] (geT b7) (b9 j _ (geT b7) hv) i b6;rw[this]at T;cases T
      have e3:=oD es (fun j=>C.getD j false) 0 D t3 E;have O:cM es (fun j=>decide (j<0+i)) 0 D=⟨I.slots,pad L I.heap⟩:=by rw[ud,a8,g8]
      have h7:∀t∈fl ops.toList e.o,(cM es (fun j=>C.getD j false) 0 D).slots[t]?=I.slots[t]?:=by
       intro t ht;have:=jD (t:=t) es (fun j=>C.getD j false) (fun j=>decide (j<0+i)) 0 D D rfl rfl (fun j b hb hw=>by
        simp only[Nat.zero_add];rcases Nat.lt_trichotomy j i with N|rfl|Y
        ·rw[U j b N hb (.inr (.inl ⟨t,hw,.inl ht⟩))];simp[N]
        ·rw[T];simp
        ·rw[J j b Y hb (.inr (.inr ⟨t,hw,ht⟩))];simp;omega)
       rw[this,O]
      have k6:=(qb g3).1;have b8:∀j b,i<j->es[j]?=some b->∀x,x∈fo b.ws->x∈e.rd->C.getD j false=false\/tJ ops.toList e b ((es.take j).drop (i+1))=true:=by
       intro j b hj hb x hx hr;rcases Gi b4 hj he hb hx hr with b6|hs
       ·left;cases hv:C.getD j false with
        |false=>rfl
        |true=>
         have b7:j<ops.toList.length:=by rw[<-t2];exact aT hb
         have:=sY b3 (s:=fun j=>C.getD j false) b9 j ops.toList[j] (geT b7) (b9 j _ (geT b7) hv) i b6;rw[this]at T;cases T
       ·exact .inr hs
      have k7:(∀b∈e.rd,(cM es (fun j=>C.getD j false) 0 D).heap[b]?=I.heap[b]?)\/((∃t m k,e.o.op=.lookup t m k false)/\∀r,evalOp P (evA I.slots) I.heap I.heap.length e.o=some r->evalOp P (evA I.slots) (cM es (fun j=>C.getD j false) 0 D).heap I.heap.length e.o=some r):=by
       by_cases hex:∃j b,i<j/\es[j]?=some b/\C.getD j false=true/\tJ ops.toList e b ((es.take j).drop (i+1))=true
       ·right;obtain⟨j,b,c3,hb,p5,a1⟩:=hex;obtain⟨sw,p6,r8,r9⟩:=zV a1;unfold tJ at a1;split at a1
        ·rename_i t m k t' m' k' e4 j4;simp only[Bool.and_eq_true]at a1;obtain⟨⟨⟨⟨⟨⟨⟨⟨⟨q1,q2⟩,q3⟩,q4⟩,q5⟩,_⟩,_⟩,_⟩,_⟩,qm⟩:=a1;obtain rfl:=Nat.eq_of_beq_eq_true q1;obtain rfl:=Nat.eq_of_beq_eq_true q2;obtain rfl:=Nat.eq_of_beq_eq_true q3;refine⟨⟨_,_,_,e4⟩,fun r hr=>?_⟩;have e5:∀q c,i<q->q<j->es[q]?=some c->(∀x∈fo c.ws,x∉e.rd)/\m∉c.o.dst.toList/\k∉c.o.dst.toList:=by
          intro q c h1 h2 hc;have a6:c∈(es.take j).drop (i+1):=by
           refine List.mem_of_getElem? (i:=q-(i+1)) ?_;rw[List.getElem?_drop,show i+1+(q-(i+1))=q by omega,List.getElem?_take,if_pos h2];exact hc
          have:=List.all_eq_true.1 qm c a6;simp only[Bool.and_eq_true,Bool.not_eq_true']at this;obtain⟨⟨h3,h4⟩,h5⟩:=this;exact⟨fun x hx=>lM h3 hx,by simpa using h4,by simpa using h5⟩
         obtain⟨o3,sj,s0,f1,f2,f3,f4,f5,f6,f7,f8⟩:=t5 j b hb;have n2:cM es (fun q=>decide (q<0+j)) 0 D=⟨sj.slots,pad L sj.heap⟩:=by rw[ud,a8,f8]
         have p7:∀y∈b.o.op.operands.toList,∀t,y=.tmp t->t∈fl ops.toList b.o:=fun y hy t ht=>by
          subst ht;simp only[fl,List.mem_append];exact .inl (yG hy)
         have p8:∀y,y∈[m,k]->I.slots[y]?=sj.slots[y]?:=by
          intro y hy;have p9:y∈fl ops.toList b.o:=p7 (.tmp y) (by rw[j4];simp[Op.operands]at hy ⊢;rcases hy with h|h<;>simp[h]) y rfl;have:=jD (t:=y) es (fun q=>decide (q<0+i)) (fun q=>decide (q<0+j)) 0 D D rfl rfl (fun q c hc hw=>by
           simp only[Nat.zero_add];rcases Nat.lt_trichotomy q i with N|rfl|Y
           ·simp[N,Nat.lt_trans N c3]
           ·rw[he]at hc;cases hc;exact(lM p6 hw p9).elim
           ·by_cases e6:q<j
            ·obtain⟨_,z1,z2⟩:=e5 q c Y e6 hc;simp at hy;rcases hy with h|h
             ·exact(z1 (h▸hw)).elim
             ·exact(z2 (h▸hw)).elim
            ·simp;omega)
          rw[O,n2]at this;exact this
         have n3:∀y,y∈[m,k]->evA sj.slots (.tmp y)=evA I.slots (.tmp y):=fun y hy=>(zH fun t ht=>by cases ht;exact p8 y hy).symm
         have eo:∀(ρ:Operand->AV) (H:List Blk) (nid:Nat),evalOp P ρ H nid e.o=bU.ofP (eK P H t (ρ (.tmp m)) (ρ (.tmp k)) false):=fun ρ H nid=>by
          unfold evalOp;rw[e4];rfl
         rw[eo]at hr ⊢;cases a7:eK P I.heap t (evA I.slots (.tmp m)) (evA I.slots (.tmp k)) false with
         |none=>rw[a7]at hr;cases hr
         |some A=>
          rw[a7]at hr;obtain⟨b0,k8⟩:∃b0,evA I.slots (.tmp m)=.mp b0:=by
           unfold eK lq at a7;split at a7
           ·rename_i n4 _;split at n4
            ·exact⟨_,by assumption⟩
            ·cases n4
           ·cases a7
          have g1:e.o.guard=none:=by simpa using q4
          have q0:b.o.guard=none:=by simpa using q5
          have c4:e.rd=[b0]:=by
           have h0:=g2;unfold lL at h0;have hw:dK ops.toList e.o I.slots=some true:=by unfold dK;rw[g1]
           rw[hw]at h0;simp only[eo,a7,bU.ofP]at h0;rw[ft]at h0;have h0:=congrArg (fun z=>(z.bind fun w=>w.2).map (·.rd)) h0;simp only[Option.bind_some,Option.map_some,Option.some.injEq]at h0;rw[<-h0];unfold rF;rw[e4];simp only[k8,eX]
          have k9:b0<I.heap.length:=by
           have:=(qb g3).1 b0 (by rw[c4];simp);exact this
          have c0:sj.heap[b0]?=I.heap[b0]?:=by
           have:=jN (b:=b0) es (fun q=>decide (q<0+i)) (fun q=>decide (q<0+j)) 0 D D t3 E E rfl (fun q c hc hw=>by
            simp only[Nat.zero_add];rcases Nat.lt_trichotomy q i with N|rfl|Y
            ·simp[N,Nat.lt_trans N c3]
            ·rw[he]at hc;cases hc;rw[sw]at hw;simp[fo]at hw
            ·by_cases e6:q<j
             ·exact((e5 q c Y e6 hc).1 b0 hw (by rw[c4];simp)).elim
             ·simp;omega)
           rw[O,n2]at this;simp only at this;rw[Aw k9]at this;have n5:b0<sj.heap.length:=by
            by_cases hc:sj.heap.length<=b0
            ·exfalso;have h9:(pad L sj.heap)[b0]?=some .dead:=by
              have r6:b0<L:=by omega
              simp only[pad,jz];rw[List.getElem?_append_right hc,List.getElem?_replicate,if_pos (by omega)]
             rw[h9]at this;unfold eK at a7;rw[k8]at a7;simp only[lq,this]at a7
             (repeat' split at a7)<;>simp_all
            ·omega
           rw[Aw n5]at this;exact this.symm
          have h0:=f2;rw[<-f4]at h0;unfold lL at h0;have hw:dK ops.toList b.o sj.slots=some true:=by unfold dK;rw[q0]
          have eb:evalOp P (evA sj.slots) sj.heap sj.heap.length b.o=nu P sj.heap t (evA sj.slots (.tmp m)) (evA sj.slots (.tmp k)):=by
           unfold evalOp;rw[j4];rfl
          rw[hw]at h0;simp only[eb,n3 m (by simp),n3 k (by simp)]at h0;split at h0
          ·rename_i v hv;unfold nu at hv;(repeat' split at hv)<;>cases hv
          ·rename_i v ws hv;rw[ft]at h0;have l0:=congrArg (fun z=>(z.bind fun w=>w.2).map (·.ws)) h0;simp only[Option.bind_some,Option.map_some,Option.some.injEq]at l0;obtain⟨X,hX,c7⟩:=BI (H':=(cM es (fun j=>C.getD j false) 0 D).heap) a7 k8 c0 hv;rw[c7 ?_]
           ·exact hr
           have n9:b0∈fo b.ws:=by rw[<-l0,hX];simp[fo]
           have o0:=mJ (b:=b0) es (fun q=>decide (q<0+i)) 0 j D b t3 E hb (by simp;omega) n9 (fun q c hq hc hw=>by simp;omega);have h8:=jN (b:=b0) es (fun j=>C.getD j false) (fun q=>decide (q<0+i)||decide (q=0+j)) 0 D D t3 E E rfl (fun q c hc hw=>by
            simp only[Nat.zero_add];rcases Nat.lt_trichotomy q i with N|rfl|Y
            ·rw[U q c N hc (.inl ⟨b0,hw,.inl (by rw[c4];simp)⟩)];simp[N]
            ·rw[he]at hc;cases hc;rw[sw]at hw;simp[fo]at hw
            ·by_cases e6:q=j
             ·subst e6;rw[p5];simp
             ·have hf:C.getD q false=false:=by
               rcases b8 q c Y hc b0 hw (by rw[c4];simp)with h|h
               ·exact h
               ·exfalso;rcases Nat.lt_or_ge q j with h1|h1
                ·exact(e5 q c Y h1 hc).1 b0 hw (by rw[c4];simp)
                ·have a6:b∈(es.take q).drop (i+1):=by
                  refine List.mem_of_getElem? (i:=j-(i+1)) ?_;rw[List.getElem?_drop,show i+1+(j-(i+1))=j by omega,List.getElem?_take,if_pos (by omega)];exact hb
                 unfold tJ at h;split at h
                 ·simp only[Bool.and_eq_true]at h;have h2:=List.all_eq_true.1 h.2 b a6;simp only[Bool.and_eq_true]at h2;exact lM h2.1.1 n9 (by rw[c4];simp)
                 ·cases h
              rw[hf];simp;omega)
           rw[h8,o0,O,<-l0,hX];simp only[aR];rw[gr (by have:=rG (H:=I.heap) (L:=L) (by omega);omega),if_pos rfl]
          ·rename_i f as hv;unfold nu at hv;(repeat' split at hv)<;>cases hv
          ·cases h0
        ·cases a1
       ·left;intro b hb;have:=jN (b:=b) es (fun j=>C.getD j false) (fun j=>decide (j<0+i)) 0 D D t3 E E rfl (fun j x hx hw=>by
         simp only[Nat.zero_add];rcases Nat.lt_trichotomy j i with N|rfl|Y
         ·rw[U j x N hx (.inl ⟨b,hw,.inl hb⟩)];simp[N]
         ·rw[T];simp
         ·have hf:C.getD j false=false:=by
           rcases b8 j x Y hx b hw hb with h|h
           ·exact h
           ·cases hv:C.getD j false with
            |false=>rfl
            |true=>exact(hex ⟨j,x,Y,hx,hv,h⟩).elim
          rw[hf];simp;omega)
        rw[this,O];exact Aw (k6 b hb)
      have j0:∀b∈fo e.ws,I.heap.length<=b->∀q,π1[b]?≠some (some q):=by
       intro b hb s3;refine j8 b (by omega) fun j x hx hl l3=>?_
       rcases Nat.lt_trichotomy j i with N|rfl|Y
       ·have:=(pz es 0 i j x e b4 he (by omega) hx).2;simp only[fo,List.mem_map]at l3;obtain⟨p,hp,rfl⟩:=l3;have:=this p hp;omega
       ·rw[T]at hl;cases hl
       ·rw[J j x Y hx (.inl ⟨b,hb,.inr l3⟩)]at hl;cases hl
      have l4:I.heap.length+e.n<=L:=by
       rcases Nat.eq_zero_or_pos e.n with h0|h0
       ·omega
       ·have h1:=(qb g3).2.2 (e.n-1) (by omega);have h2:=t3 e (List.mem_of_getElem? he) _ h1;omega
      have j1:fA e (cM es (fun j=>C.getD j false) 0 D)=cM es (fun j=>(C.setIfInBounds i true).getD j false) 0 D:=by
       have o1:(fun j=>(C.setIfInBounds i true).getD j false)=fun j=>C.getD j false||decide (j=0+i):=by
        funext j;rw[getD_set_true b1,Nat.zero_add]
       rw[o1];have q6:∀x∈fo e.ws,x<L:=t3 e (List.mem_of_getElem? he);have e1:(cM es (fun j=>C.getD j false||decide (j=0+i)) 0 D).slots=iM (cM es (fun j=>C.getD j false) 0 D).slots e.o.dst e.v:=by
        refine List.ext_getElem? fun t=>?_
        by_cases ht:t∈e.o.dst.toList
        ·exact oR es (fun j=>C.getD j false) 0 i D e he (by simpa using T) ht fun j b c3 hb hw=>by
          rw[Nat.zero_add];exact J j b c3 hb (.inr (.inl ⟨t,ht,.inr hw⟩))
        ·rw[ue ht];refine jD es _ _ 0 D D rfl rfl fun j b hb hw=>?_
         have:¬0+j=0+i:=by
          intro e0;obtain rfl:j=i:=by omega
          rw[he]at hb;cases hb;exact ht hw
         rw[decide_eq_false this,Bool.or_false]
       have e2:(cM es (fun j=>C.getD j false||decide (j=0+i)) 0 D).heap=aR (cM es (fun j=>C.getD j false) 0 D).heap e.ws:=by
        refine List.ext_getElem? fun b=>?_
        by_cases hb:b∈fo e.ws
        ·exact mJ es (fun j=>C.getD j false) 0 i D e t3 E he (by simpa using T) hb fun j x c3 hx hw=>by
          rw[Nat.zero_add];exact J j x c3 hx (.inl ⟨b,hb,.inr hw⟩)
        ·rw[od _ _ (by rw[e3.1];exact q6) hb];refine jN es _ _ 0 D D t3 E E rfl fun j x hx hw=>?_
         have:¬0+j=0+i:=by
          intro e0;obtain rfl:j=i:=by omega
          rw[he]at hx;cases hx;exact hb hw
         rw[decide_eq_false this,Bool.or_false]
       unfold fA;cases hF:cM es (fun j=>C.getD j false||decide (j=0+i)) 0 D;rw[hF]at e1 e2;simp only at e1 e2;rw[e1,e2]
      unfold wpOp;rw[ho];simp only;refine CF o8 j5 g2 g3 (by rw[e3.1];exact l4) h7 k7 e8 j0 fun a' w' π' o4 o5 q7=>?_
      rw[j1]at o4 o5;refine ih (C.setIfInBounds i true) a' w' π' (by simpa using l9) ?_ ?_ o4 (e9.trans o5) ?_
      ·have s4:((List.range ops.size).countP fun j=>!C.getD j false)=((List.range ops.size).countP fun j=>!(C.setIfInBounds i true).getD j false)+1:=by
        have gen:∀(l:List Nat),l.Nodup->i∈l->(l.countP fun j=>!C.getD j false)=(l.countP fun j=>!(C.setIfInBounds i true).getD j false)+1:=by
         intro l;induction l with
         |nil=>intro _ h;cases h
         |cons x l q8=>
          intro l5 a6;rw[List.nodup_cons]at l5;rw[List.countP_cons,List.countP_cons,getD_set_true b1];by_cases hx:x=i
          ·subst hx;have c0:(l.countP fun j=>!C.getD j false)=l.countP fun j=>!(C.setIfInBounds x true).getD j false:=by
            refine List.countP_congr fun y hy=>?_
            rw[getD_set_true b1];have:¬y=x:=by rintro rfl;exact l5.1 hy
            simp[this]
           rw[c0,T];simp
          ·have:=q8 l5.2 (by
            rcases List.mem_cons.1 a6 with e0|e0
            ·exact(hx e0.symm).elim
            ·exact e0)
           rw[this];simp[hx];omega
        exact gen _ List.nodup_range (by simpa using c8)
       omega
      ·intro j oj hj hs e' o6 hb;rw[getD_set_true b1]at hs ⊢;rw[Bool.or_eq_true]at hs ⊢;left;rcases hs with hs|hs
       ·exact b9 j oj hj hs e' o6 hb
       ·obtain rfl:j=i:=by simpa using hs
        rw[k4]at hj;cases hj;exact c9 e' o6 hb
      ·intro b hb o7 q hq;have q9:b∉fo e.ws:=o7 i e he (by rw[getD_set_true b1];simp);rw[q7 b q9]at hq;refine j8 b hb (fun j x hx hl=>o7 j x hx ?_) q hq;rw[getD_set_true b1,hl];simp
   refine key ops.size (Array.replicate ops.size false) a {w with drawn:=w.drawn+1} π0 (by simp) ?_ ?_ ?_ ?_ ?_
   ·have:∀i,(Array.replicate ops.size false).getD i false=false:=fun i=>getD_none i
    simp only[this,Bool.not_false];simp
   ·intro j o _ hj;have:∀i,(Array.replicate ops.size false).getD i false=false:=fun i=>getD_none i
    rw[this]at hj;cases hj
   ·have:(fun j=>(Array.replicate ops.size false).getD j false)=fun _=>false:=by funext i;exact getD_none i
    rw[this,ug];exact p1
   ·have:(fun j=>(Array.replicate ops.size false).getD j false)=fun _=>false:=by funext i;exact getD_none i
    rw[this,ug];exact l8
   ·intro b hb _;exact c6 b hb
  ·cases h
 ·cases h
end Go.Eng

