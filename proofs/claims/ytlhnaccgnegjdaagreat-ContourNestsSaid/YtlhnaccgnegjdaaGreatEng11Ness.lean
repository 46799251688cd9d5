import Derived.Test.YtlhnaccgnegjdaaGreatEng8Ness
set_option linter.all false
namespace Go.Eng
open Go Go.RowKit
variable[Dr]
section
variable{P:Program}{out:Nat->Prop}{B:Nat->Prop}
theorem tk(p:tU P){call:ef}(m:gU P call){ops:Array Oper}{Q:Exit->Act->World->Prop}:∀(l:List Oper) (k:Nat) (st st':St) (w:World) (π:List (Option PB)) (a:Act),(∀j,l[j]?=ops[k+j]?)->
  iv P call ops.toList l st=some st'->Rep out B w π st a->
  (∀a' w' π',Rep out B w' π' st' a'->Ext B w w' (aG out π st.heap) (aG out π' st'.heap) π π'->Q .normal a' w')->wpOps P ops Q (List.range' k l.length) a w
 |[],k,st,st',w,π,a,_,h,C,D=>by
  cases h;exact D a w π C (Ext.refl _ _ _)
 |o::l,k,st,st',w,π,a,N,h,C,D=>by
  simp only[iv]at h;split at h
  ·rename_i st1 T h1;have O:ops[k]?=some o:=by simpa using(N 0).symm
   simp only[List.length_cons,List.range'_succ,wpOps,O];refine Br p m C h1 (K:=wpOps P ops Q (List.range' (k+1) l.length)) (Q:=Q) fun a' w' π' E I=>?_
   refine tk p m l (k+1) st1 st' w' π' a' (fun j=>?_) h E fun J M π'' q z=>D J M π'' q (I.trans z)
   have:=N (j+1);simpa [Nat.add_assoc,Nat.add_comm 1 j]using this
  ·cases h
end
def eN(ws:List (Nat×Blk)):List Nat:=ws.map (·.1)
theorem jD:∀(ws:List (Nat×Blk)) (h:List Blk),(∀i∈eN ws,i<h.length)->(aQ h ws).length=h.length
 |[],_,_=>rfl
 |(i,x)::ws,h,m=>by
  have q:i<h.length:=m i (by simp[eN]);have e:(upd h i x).length=h.length:=by rw[cZ (by omega),if_neg (by omega)]
  rw[aQ,jD ws _ (fun j p=>by rw[e];exact m j (by simp[eN]at p ⊢;exact .inr p)),e]
theorem od{b:Nat}:∀(ws:List (Nat×Blk)) (h:List Blk),(∀i∈eN ws,i<h.length)->b∉eN ws->(aQ h ws)[b]?=h[b]?
 |[],_,_,_=>rfl
 |(i,x)::ws,h,p,hb=>by
  have z:i<h.length:=p i (by simp[eN]);have e:(upd h i x).length=h.length:=by rw[cZ (by omega),if_neg (by omega)]
  rw[aQ,od ws _ (fun j q=>by rw[e];exact p j (by simp[eN]at q ⊢;exact .inr q)) (fun m=>hb (by simp[eN]at m ⊢;exact .inr m)),fA (by omega),if_neg];rintro rfl;exact hb (by simp[eN])
theorem q9{b:Nat}:∀(ws:List (Nat×Blk)) (h k:List Blk),h.length=k.length->(∀i∈eN ws,i<h.length)->(b∈eN ws\/h[b]?=k[b]?)->(aQ h ws)[b]?=(aQ k ws)[b]?
 |[],_,_,_,_,hb=>by rcases hb with hb|hb;(simp[eN]at hb);exact hb
 |(i,x)::ws,h,k,hlen,p,hb=>by
  have z:i<h.length:=p i (by simp[eN]);have e1:(upd h i x).length=h.length:=by rw[cZ (by omega),if_neg (by omega)]
  have e2:(upd k i x).length=k.length:=by rw[cZ (by omega),if_neg (by omega)]
  refine q9 ws _ _ (by omega) (fun j q=>by rw[e1];exact p j (by simp[eN]at q ⊢;exact .inr q)) ?_;by_cases m:b=i
  ·right;subst m;rw[fA (by omega),fA (by omega),if_pos rfl,if_pos rfl]
  ·rcases hb with hb|hb
   ·left;simp only[eN,List.map_cons,List.mem_cons]at hb ⊢;exact hb.resolve_left m
   ·right;rw[fA (by omega),fA (by omega),if_neg m,if_neg m];exact hb
theorem px(s:List AV)(d:Option Tmp)(v:AV):(gX s d v).length=s.length:=by cases d<;>simp[gX]
theorem tw{s:List AV}{d:Option Tmp}{v:AV}{t:Nat}(h:t∉d.toList):(gX s d v)[t]?=s[t]?:=by
 cases d with
 |none=>rfl
 |some d=>simp only[gX];rw[List.getElem?_set,if_neg];rintro rfl;exact h (by simp)
theorem xL{s r:List AV}{d:Option Tmp}{v:AV}{t:Nat}(m:s.length=r.length)(h:t∈d.toList\/s[t]?=r[t]?):(gX s d v)[t]?=(gX r d v)[t]?:=by
 cases d with
 |none=>rcases h with h|h;(simp at h);exact h
 |some d=>
  simp only[gX];rw[List.getElem?_set,List.getElem?_set,m];split
  ·rfl
  ·rename_i j;rcases h with h|h
   ·simp at h;exact(j h.symm).elim
   ·exact h
def eW(e:Ent)(st:St):St:=⟨gX st.slots e.o.dst e.v,aQ st.heap e.ws⟩
def cu:List Ent->(Nat->Bool)->Nat->St->St
 |[],_,_,st=>st
 |e::es,s,k,st=>cu es s (k+1) (if s k then eW e st else st)
def Below(L:Nat)(es:List Ent):Prop:=∀e∈es,∀i∈eN e.ws,i<L
theorem oz{L:Nat}:∀(es:List Ent) (s:Nat->Bool) (k:Nat) (st:St),Below L es->st.heap.length=L->(cu es s k st).heap.length=L/\(cu es s k st).slots.length=st.slots.length
 |[],_,_,_,_,h=>⟨h,rfl⟩
 |e::es,s,k,st,hb,h=>by
  simp only[cu];split
  ·have h1:=oz es s (k+1) (eW e st) (fun x hx=>hb x (by simp[hx])) (by rw[eW];simp only;rw[jD _ _ (by rw[h];exact hb e (by simp)),h]);exact⟨h1.1,by rw[h1.2];simp[eW,px]⟩
  ·exact oz es s (k+1) st (fun x hx=>hb x (by simp[hx])) h
theorem jo{L b:Nat}:∀(es:List Ent) (s r:Nat->Bool) (k:Nat) (st q:St),Below L es->st.heap.length=L->q.heap.length=L->st.heap[b]?=q.heap[b]?->
  (∀(j:Nat) (e:Ent),es[j]?=some e->b∈eN e.ws->s (k+j)=r (k+j))->(cu es s k st).heap[b]?=(cu es r k q).heap[b]?
 |[],_,_,_,_,_,_,_,_,h,_=>h
 |e::es,s,r,k,st,q,hb,h1,h2,h,hs=>by
  have m:=hb e (by simp);have z:Below L es:=fun x hx=>hb x (by simp[hx])
  have C:∀(j:Nat) (D:Ent),es[j]?=some D->b∈eN D.ws->s (k+1+j)=r (k+1+j):=fun j D E I=>by
   have:=hs (j+1) D (by simpa using E) I;simpa [Nat.add_assoc,Nat.add_comm 1 j]using this
  have l1:(eW e st).heap.length=L:=by simp only[eW];rw[jD _ _ (by rw[h1];exact m),h1]
  have l2:(eW e q).heap.length=L:=by simp only[eW];rw[jD _ _ (by rw[h2];exact m),h2]
  simp only[cu];by_cases p:b∈eN e.ws
  ·have:=hs 0 e rfl p;simp only[Nat.add_zero]at this;rw[this];split
   ·exact jo es s r (k+1) _ _ z l1 l2 (q9 _ _ _ (by omega) (by rw[h1];exact m) (.inl p)) C
   ·exact jo es s r (k+1) _ _ z h1 h2 h C
  ·have J:(eW e st).heap[b]?=st.heap[b]?:=od _ _ (by rw[h1];exact m) p;have M:(eW e q).heap[b]?=q.heap[b]?:=od _ _ (by rw[h2];exact m) p;split<;>split<;>refine jo es s r (k+1) _ _ z (by assumption) (by assumption) ?_ C<;>simp only[J,M,h]
theorem ji{t:Nat}:∀(es:List Ent) (s r:Nat->Bool) (k:Nat) (st p:St),st.slots.length=p.slots.length->st.slots[t]?=p.slots[t]?->
  (∀(j:Nat) (e:Ent),es[j]?=some e->t∈e.o.dst.toList->s (k+j)=r (k+j))->(cu es s k st).slots[t]?=(cu es r k p).slots[t]?
 |[],_,_,_,_,_,_,h,_=>h
 |e::es,s,r,k,st,p,C,h,hs=>by
  have q:∀(j:Nat) (z:Ent),es[j]?=some z->t∈z.o.dst.toList->s (k+1+j)=r (k+1+j):=fun j z D E=>by
   have:=hs (j+1) z (by simpa using D) E;simpa [Nat.add_assoc,Nat.add_comm 1 j]using this
  have l1:(eW e st).slots.length=st.slots.length:=px _ _ _;have l2:(eW e p).slots.length=p.slots.length:=px _ _ _;simp only[cu];by_cases m:t∈e.o.dst.toList
  ·have:=hs 0 e rfl m;simp only[Nat.add_zero]at this;rw[this];split
   ·exact ji es s r (k+1) _ _ (by omega) (xL C (.inl m)) q
   ·exact ji es s r (k+1) _ _ C h q
  ·have I:(eW e st).slots[t]?=st.slots[t]?:=tw m;have J:(eW e p).slots[t]?=p.slots[t]?:=tw m;split<;>split<;>refine ji es s r (k+1) _ _ (by omega) ?_ q<;>simp only[I,J,h]
theorem lV{L b:Nat}:∀(es:List Ent) (s:Nat->Bool) (k i:Nat) (st:St) (e:Ent),Below L es->st.heap.length=L->es[i]?=some e->s (k+i)=false->b∈eN e.ws->
  (∀(j:Nat) (p:Ent),i<j->es[j]?=some p->b∈eN p.ws->s (k+j)=false)->
  (cu es (fun j=>s j||decide (j=k+i)) k st).heap[b]?=(aQ (cu es s k st).heap e.ws)[b]?
 |[],_,_,_,_,_,_,_,h,_,_,_=>by simp at h
 |e0::es,s,k,0,st,e,hb,D,h,hs,E,m=>by
  simp only[List.getElem?_cons_zero,Option.some.injEq]at h;subst h;have z:=hb e0 (by simp);have C:Below L es:=fun x hx=>hb x (by simp[hx])
  simp only[Nat.add_zero]at hs;simp only[cu,Nat.add_zero,hs,Bool.false_eq_true,if_false,decide_true,Bool.false_or,if_true];have hlen:=(oz es s (k+1) st C D).1;have l1:(eW e0 st).heap.length=L:=by simp only[eW];rw[jD _ _ (by rw[D];exact z),D]
  have J:∀(r:Nat->Bool) (q:St),q.heap.length=L->(∀(j:Nat) (p:Ent),es[j]?=some p->b∈eN p.ws->r (k+1+j)=false)->(cu es r (k+1) q).heap[b]?=q.heap[b]?:=by
   intro r q I O;have:=jo (b:=b) es r (fun _=>false) (k+1) q q C I I rfl (fun j p h1 h2=>O j p h1 h2);rw[this];clear this;have M:∀(es:List Ent) (k:Nat) (q:St),cu es (fun _=>false) k q=q:=by
    intro es;induction es with
    |nil=>intro _ _;rfl
    |cons x es T=>intro k q;simp[cu,T]
   rw[M]
  have N:∀(j:Nat) (p:Ent),es[j]?=some p->b∈eN p.ws->s (k+1+j)=false:=fun j p h1 h2=>by
   have:=m (j+1) p (by omega) (by simpa using h1) h2;simpa [Nat.add_assoc,Nat.add_comm 1 j]using this
  rw[J _ _ l1 (fun j p h1 h2=>by simp[N j p h1 h2];omega)];refine q9 _ _ _ (by omega) (by rw[D];exact z) (.inl E)
 |e0::es,s,k,i+1,st,e,hb,D,h,hs,E,m=>by
  have z:=hb e0 (by simp);have C:Below L es:=fun x hx=>hb x (by simp[hx])
  simp only[cu];have U:decide (k=k+(i+1))=false:=by simp
  simp only[U,Bool.or_false];have l1:(if s k then eW e0 st else st).heap.length=L:=by
   split
   ·simp only[eW];rw[jD _ _ (by rw[D];exact z),D]
   ·exact D
  have:=lV es s (k+1) i (if s k then eW e0 st else st) e C l1 (by simpa using h) (by rw[<-hs];congr 1;omega) E (fun j p Y h1 h2=>by
   have:=m (j+1) p (by omega) (by simpa using h1) h2;rw[<-this];congr 1;omega)
  rw[<-this];simp only[show k+1+i=k+(i+1)by omega]
theorem tR:∀(es:List Ent) (k:Nat) (j:St),cu es (fun _=>false) k j=j:=by
 intro es;induction es with
 |nil=>intro _ _;rfl
 |cons x es m=>intro k j;simp[cu,m]
theorem nK:∀(es:List Ent) (s:Nat->Bool) (k:Nat) (st:St),(cu es s k st).slots.length=st.slots.length
 |[],_,_,_=>rfl
 |e::es,s,k,st=>by
  simp only[cu];split
  ·rw[nK es s (k+1) (eW e st)];exact px _ _ _
  ·exact nK es s (k+1) st
theorem oR{t:Nat}:∀(es:List Ent) (s:Nat->Bool) (k i:Nat) (st:St) (e:Ent),es[i]?=some e->s (k+i)=false->t∈e.o.dst.toList->
  (∀(j:Nat) (p:Ent),i<j->es[j]?=some p->t∈p.o.dst.toList->s (k+j)=false)->
  (cu es (fun j=>s j||decide (j=k+i)) k st).slots[t]?=(gX (cu es s k st).slots e.o.dst e.v)[t]?
 |[],_,_,_,_,_,h,_,_,_=>by simp at h
 |e0::es,s,k,0,st,e,h,hs,q,m=>by
  simp only[List.getElem?_cons_zero,Option.some.injEq]at h;subst h;simp only[Nat.add_zero]at hs;simp only[cu,Nat.add_zero,hs,Bool.false_eq_true,if_false,decide_true,Bool.false_or,if_true];have C:∀(r:Nat->Bool) (z:St),(∀(j:Nat) (p:Ent),es[j]?=some p->t∈p.o.dst.toList->r (k+1+j)=false)->(cu es r (k+1) z).slots[t]?=z.slots[t]?:=by
   intro r z E;rw[ji (t:=t) es r (fun _=>false) (k+1) z z rfl rfl (fun j p h1 h2=>E j p h1 h2),tR]
  have D:∀(j:Nat) (p:Ent),es[j]?=some p->t∈p.o.dst.toList->s (k+1+j)=false:=fun j p h1 h2=>by
   have:=m (j+1) p (by omega) (by simpa using h1) h2;simpa [Nat.add_assoc,Nat.add_comm 1 j]using this
  rw[C _ _ (fun j p h1 h2=>by simp[D j p h1 h2];omega)];exact xL (by rw[nK]) (.inl q)
 |e0::es,s,k,i+1,st,e,h,hs,q,m=>by
  simp only[cu];have I:decide (k=k+(i+1))=false:=by simp
  simp only[I,Bool.or_false];have:=oR es s (k+1) i (if s k then eW e0 st else st) e (by simpa using h) (by rw[<-hs];congr 1;omega) q (fun j p J h1 h2=>by
   have:=m (j+1) p (by omega) (by simpa using h1) h2;rw[<-this];congr 1;omega)
  rw[<-this];simp only[show k+1+i=k+(i+1)by omega]
end Go.Eng


namespace Go.Eng
open Go Go.RowKit
variable[Dr]
theorem Bu{H:List Blk}{nid n by_:Nat}{s x:AV}{r:bj}(h:mi H nid n by_ s x=some r):
  (∃v ws y,r=.eff v ws/\(nid,y)∈ws)\/∀j,mi H j n by_ s x=some r:=by
 unfold mi at h;split at h
 ·cases h
 ·rename_i new m p;split at h
  ·split at h
   ·cases h;exact .inl ⟨_,_,_,rfl,by simp;rfl⟩
   ·cases h
  ·split at h
   ·rename_i q;cases h;refine .inr fun j=>?_
    simp only[mi,p,q]
   ·cases h
  ·split at h
   ·split at h
    ·cases h;exact .inl ⟨_,_,_,rfl,by simp;exact .inr rfl⟩
    ·cases h
   ·split at h
    ·cases h;exact .inl ⟨_,_,_,rfl,by simp;exact .inr rfl⟩
    ·cases h
   ·cases h
  ·cases h
theorem zL{P:Program}{H:List Blk}{nid:Nat}{b:Builtin}{at_:Array TypeId}{ty:TypeId}{args:List AV}{r:bj}(h:nA P H nid b at_ ty args=some r):
  (∃v ws y,r=.eff v ws/\(nid,y)∈ws)\/∀j,nA P H j b at_ ty args=some r:=by
 cases b
 case append=>
  match args with
  |[s,x]=>
   simp only[nA]at h ⊢;cases h1:at_[0]? with
   |none=>simp[h1]at h
   |some t=>
    cases h2:at_[1]? with
    |none=>simp[h1,h2]at h
    |some p=>
     simp only[h1,h2]at h ⊢;split at h
     ·split at h
      ·split at h
       ·rename_i n z by_ _ _ _ _ _;rcases Bu h with m|m
        ·exact .inl m
        ·refine .inr fun j=>?_
         exact m j
       ·cases h
      ·cases h
     ·split at h
      ·unfold u6 at h;split at h
       ·split at h
        ·cases h;exact .inl ⟨_,_,_,rfl,by simp;rfl⟩
        ·cases h
       ·cases h
      ·cases h
     ·cases h
  |[]=>exact .inr fun _=>h
  |[_]=>exact .inr fun _=>h
  |_::_::_::_=>exact .inr fun _=>h
 all_goals (refine .inr fun _=>?_;rcases args with _|⟨x,_|⟨y,_|⟨z,l⟩⟩⟩<;>exact h)
theorem xr{P:Program}{ρ:Operand->AV}{H:List Blk}{nid:Nat}{o:Oper}{r:bj}(h:evalOp P ρ H nid o=some r):
  (∃v ws x,r=.eff v ws/\(nid,x)∈ws)\/∀j,evalOp P ρ H j o=some r:=by
 unfold evalOp at h;unfold evalOp;cases m:o.op<;>simp only[m,sJ,yT,kq,lQ,vt,nz]at h ⊢
 case alloc t=>
  split at h
  ·split at h
   ·cases h;exact .inl ⟨_,_,_,rfl,by simp;rfl⟩
   ·cases h
  ·cases h
 case box t x=>
  split at h
  ·cases h;exact .inl ⟨_,_,_,rfl,by simp;rfl⟩
  ·cases h
 case buildSlice t n ps=>
  split at h
  ·split at h
   ·split at h
    ·split at h
     ·cases h;exact .inl ⟨_,_,_,rfl,by simp;rfl⟩
     ·cases h
    ·cases h
   ·cases h
  ·cases h
 case makeSlice t l c=>
  split at h
  ·split at h
   ·split at h
    ·cases h;exact .inl ⟨_,_,_,rfl,by simp;rfl⟩
    ·cases h
   ·cases h
  ·cases h
 case makeMap t r=>
  unfold qz at h;split at h
  ·cases h;exact .inl ⟨_,_,_,rfl,by simp;rfl⟩
  ·split at h
   ·cases h;exact .inl ⟨_,_,_,rfl,by simp;rfl⟩
   ·cases h
 case range t x=>
  unfold ow at h;split at h
  ·cases h;exact .inl ⟨_,_,_,rfl,by simp;rfl⟩
  ·cases h
 case makeFunc fn p cs=>cases fn<;>first|exact .inr fun _=>h|exact .inr fun _=>by simpa using h
 case slice t x q z mx=>cases mx<;>first|exact .inr fun _=>h|exact .inr fun _=>by simpa using h
 case call c=>
  cases hc:c.callee<;>simp only[hc]at h ⊢
  case value f=>exact .inr fun _=>h
  case builtin b=>exact zL h
  case invoke=>cases h
 all_goals exact .inr fun _=>h
def pad(L:Nat)(H:List Blk):List Blk:=H++jd (L-H.length)
theorem qD{L:Nat}{H:List Blk}(h:H.length<=L):(pad L H).length=L:=by simp[pad,jd];omega
theorem zP{L b:Nat}{H:List Blk}(h:b<H.length):(pad L H)[b]?=H[b]?:=by simp only[pad];rw[List.getElem?_append_left h]
theorem Ey{H:List Blk}:pad H.length H=H:=by simp[pad,jd]
theorem DH{L n:Nat}{H:List Blk}(h:H.length+n<=L):pad L (H++jd n)=pad L H:=by
 simp only[pad,jd,List.length_append,List.length_replicate,List.append_assoc,List.replicate_append_replicate];rw[show n+(L-(H.length+n))=L-H.length by omega]
theorem Gm{L i:Nat}{H:List Blk}{x:Blk}(z:i<=H.length)(C:(upd H i x).length<=L):pad L (upd H i x)=upd (pad L H) i x:=by
 have q:=cZ (x:=x) z;by_cases he:i=H.length
 ·subst he;rw[if_pos rfl]at q;have j:H.length<(pad L H).length:=by rw[qD (by omega)];omega
  unfold upd;rw[if_neg (by omega),if_pos j];simp only[pad,jd,List.length_append,List.length_singleton];rw[List.set_append_right _ _ (Nat.le_refl _),Nat.sub_self];obtain⟨m,hm⟩:∃m,L-H.length=m+1:=⟨L-H.length-1,by omega⟩;rw[hm,show L-(H.length+1)=m by omega,List.replicate_succ,List.set_cons_zero];simp
 ·have j:i<H.length:=by omega
  rw[if_neg he]at q;have p:i<(pad L H).length:=by rw[qD (by omega)];omega
  unfold upd;rw[if_pos j,if_pos p];simp only[pad,List.length_set];rw[List.set_append_left _ _ j]
theorem tC{L:Nat}:∀(ws:List (Nat×Blk)) (H:List Blk),(∀i∈eN ws,i<=H.length)->(aQ H ws).length<=L->
  pad L (aQ H ws)=aQ (pad L H) ws/\H.length<=(aQ H ws).length/\∀i∈eN ws,i<(aQ H ws).length
 |[],H,_,_=>⟨rfl,Nat.le_refl _,by simp[eN]⟩
 |(i,x)::ws,H,C,D=>by
  have p:i<=H.length:=C i (by simp[eN]);have E:=cZ (x:=x) p;have q:H.length<=(upd H i x).length:=by rw[E];split<;>omega
  have z:i<(upd H i x).length:=by rw[E];split<;>omega
  obtain⟨h1,h2,I⟩:=tC ws (upd H i x) (fun j m=>Nat.le_trans (C j (by simp[eN]at m ⊢;exact .inr m)) q) D;refine⟨?_,Nat.le_trans q h2,?_⟩
  ·rw[aQ,h1,aQ,Gm p (Nat.le_trans h2 D)]
  ·intro j m;simp only[eN,List.map_cons,List.mem_cons]at m;rcases m with rfl|m
   ·exact Nat.lt_of_lt_of_le z h2
   ·exact I j m
theorem qw{len:Nat}{e:Ent}(h:nU len e=true):(∀b∈e.rd,b<len)/\(∀i∈eN e.ws,i<=len+e.n/\(0<e.n->i<len+e.n))/\(∀j,j<e.n->len+j∈eN e.ws):=by
 simp only[nU,Bool.and_eq_true,List.all_eq_true,decide_eq_true_eq]at h;obtain⟨h1,h2⟩:=h;refine⟨h1,?_,?_⟩
 ·intro i q;simp only[eN,List.mem_map]at q;obtain⟨p,hp,rfl⟩:=q;cases m:e.n with
  |zero=>simp only[m,List.all_eq_true,decide_eq_true_eq]at h2;exact⟨by have:=h2 p hp;omega,by omega⟩
  |succ n=>simp only[m,Bool.and_eq_true,List.all_eq_true,decide_eq_true_eq]at h2;have:=h2.1 p hp;omega
 ·intro j z;cases m:e.n with
  |zero=>omega
  |succ n=>
   simp only[m,Bool.and_eq_true,List.all_eq_true,decide_eq_true_eq]at h2;have:=h2.2 j (by simp;omega);simpa [eN]using this
theorem DO{P:Program}{call:ef}{ops:List Oper}{o:Oper}{st st1:St}{e:Ent}{L:Nat}(h:kD P call ops o st=some (st1,some e))(m:nU st.heap.length e=true)(p:st1.heap.length<=L):
  e.o=o/\e.nid=st.heap.length/\st.heap.length<=st1.heap.length/\(∀i∈eN e.ws,i<st1.heap.length)/\eW e ⟨st.slots,pad L st.heap⟩=⟨st1.slots,pad L st1.heap⟩:=by
 obtain⟨_,j,_⟩:=qw m;unfold kD at h;split at h
 ·split at h
  ·rename_i v C;rw[eU]at h;cases h;exact⟨rfl,rfl,Nat.le_refl _,by simp[eN],rfl⟩
  ·rename_i v ws C;rw[eU]at h;cases h;obtain⟨h1,h2,q⟩:=tC (L:=L) ws st.heap (fun i z=>by have:=(j i z).1;simpa using this) p;exact⟨rfl,rfl,h2,q,by simp only[eW,h1]⟩
  ·split at h
   ·rename_i f args _ v ws rd n hc;rw[eU]at h;cases h;simp only at j p;obtain⟨h1,h2,q⟩:=tC (L:=L) ws (st.heap++jd n) (fun i z=>by have:=(j i z).1;simp[jd];omega) p;have hd:(st.heap++jd n).length=st.heap.length+n:=by simp[jd]
    have hle:st.heap.length+n<=L:=by omega
    refine⟨rfl,rfl,by simp only;omega,q,?_⟩;simp only[eW];rw[h1,DH hle]
   ·rw[eU]at h;cases h
   ·cases h
  ·cases h
 ·rw[eU]at h;cases h;exact⟨rfl,rfl,Nat.le_refl _,by simp[eN],rfl⟩
 ·cases h
theorem mP:∀(es:List Ent) (k j:Nat) (st:St),cu es (fun _=>true) k st=cu es (fun _=>true) j st
 |[],_,_,_=>rfl
 |e::es,k,j,st=>by simp only[cu,if_true];exact mP es _ _ _
theorem wy{P:Program}{call:ef}{ops:List Oper}{L:Nat}:∀(rest:List Oper) (st st':St) (es:List Ent),gj P call ops rest st=some (st',es)->st'.heap.length<=L->
  st.heap.length<=st'.heap.length/\es.length=rest.length/\Below st'.heap.length es/\cu es (fun _=>true) 0 ⟨st.slots,pad L st.heap⟩=⟨st'.slots,pad L st'.heap⟩/\
  ∀(j:Nat) (e:Ent),es[j]?=some e->∃o m st1,rest[j]?=some o/\kD P call ops o m=some (st1,some e)/\nU m.heap.length e=true/\e.o=o/\e.nid=m.heap.length/\st.heap.length<=m.heap.length/\
   m.heap.length<=L/\cu (es.take j) (fun _=>true) 0 ⟨st.slots,pad L st.heap⟩=⟨m.slots,pad L m.heap⟩
 |[],st,st',es,h,D=>by
  cases h;exact⟨Nat.le_refl _,rfl,by simp[Below],rfl,by simp⟩
 |o::rest,st,st',es,h,D=>by
  simp only[gj]at h;split at h
  ·rename_i st1 e h1;split at h
   ·rename_i J p q h2;cases h;obtain⟨i1,i2,i3,i4,i5⟩:=wy rest st1 st' p h2 D;obtain⟨M,N,p3,O,E⟩:=DO (L:=L) h1 q (by omega);refine⟨by omega,by simp[i2],?_,?_,?_⟩
    ·intro x hx i I;rcases List.mem_cons.1 hx with rfl|hx
     ·exact Nat.lt_of_lt_of_le (O i I) i1
     ·exact i3 x hx i I
    ·simp only[cu,if_true];rw[E,mP p (0+1) 0,i4]
    ·intro j x z;cases j with
     |zero=>
      simp at z;subst z;exact⟨o,st,st1,rfl,h1,q,M,N,Nat.le_refl _,by omega,rfl⟩
     |succ j=>
      obtain⟨o',m,C,g1,T,U,Y,g5,g6,g7,g8⟩:=i5 j x (by simpa using z);refine⟨o',m,C,by simpa using g1,T,U,Y,g5,by omega,g7,?_⟩;simp only[List.take_succ_cons,cu,if_true];rw[E,mP _ (0+1) 0,g8]
   ·cases h
  ·cases h
theorem tS:∀(es:List Ent) (i k:Nat) (st:St),cu es (fun j=>decide (j<k+i)) k st=cu (es.take i) (fun _=>true) k st
 |[],i,k,st=>by simp[cu]
 |e::es,0,k,st=>by
  have:∀(es:List Ent) (m:Nat) (st:St),k<=m->cu es (fun j=>decide (j<k+0)) m st=st:=by
   intro es;induction es with
   |nil=>intro _ _ _;rfl
   |cons x es p=>intro m st hm;simp only[cu];rw[if_neg (by simp;omega)];exact p (m+1) st (by omega)
  rw[this _ k st (Nat.le_refl _)];rfl
 |e::es,i+1,k,st=>by
  simp only[cu,List.take_succ_cons,if_true];rw[if_pos (by simp)];have:=tS es i (k+1) (eW e st);rw[<-this];congr 1;funext j;congr 1;simp only[eq_iff_iff];omega
end Go.Eng


namespace Go.Eng
open Go Go.RowKit
variable[Dr]
theorem qx(acc:List Nat)(i:Nat):∀(l:List Edge) (s:Nat),(l.foldl (fun s e=>if Region.binds .any e then s ||| (2^e.on ||| acc.getD e.on 0)else s) s).testBit i=true->
  s.testBit i=true\/∃e∈l,Region.binds .any e=true/\(e.on=i\/(acc.getD e.on 0).testBit i=true)
 |[],_,h=>.inl h
 |e::l,s,h=>by
  simp only[List.foldl_cons]at h;rcases qx acc i l _ h with h|⟨j,h1,h2⟩
  ·split at h
   ·rename_i hb;simp only[Nat.testBit_or,Bool.or_eq_true]at h;rcases h with h|h|h
    ·exact .inl h
    ·refine .inr ⟨e,by simp,hb,.inl ?_⟩;rw[Nat.testBit_two_pow]at h;simpa using h
    ·exact .inr ⟨e,by simp,hb,.inr h⟩
   ·exact .inl h
  ·exact .inr ⟨j,by simp[h1],h2⟩
theorem rQ:∀(l:List Oper) (acc:List Nat) (j:Nat),j<acc.length->(tW acc l)[j]?=acc[j]?
 |[],_,_,_=>rfl
 |o::l,acc,j,h=>by
  rw[tW,rQ l _ j (by simp;omega),List.getElem?_append_left h]
theorem Bj:∀(l:List Oper) (acc:List Nat) (j:Nat) (o:Oper),l[j]?=some o->∃m,(tW acc l)[acc.length+j]?=some (wZ m o)/\m.length=acc.length+j/\∀k,k<m.length->(tW acc l)[k]?=m[k]?
 |[],_,_,_,h=>by simp at h
 |o::l,acc,0,o',h=>by
  simp at h;subst h;refine⟨acc,?_,rfl,fun k p=>rQ (o::l) acc k p⟩;rw[tW,rQ l _ _ (by simp)];simp
 |o::l,acc,j+1,o',h=>by
  obtain⟨m,h1,h2,q⟩:=Bj l (acc++[wZ acc o]) j o' (by simpa using h);refine⟨m,?_,by simp at h2;omega,fun k p=>by rw[tW];exact q k p⟩;rw[tW];simpa [Nat.add_assoc,Nat.add_comm 1 j]using h1
theorem rS:∀(l:List Oper) (k j:Nat) (o:Oper),qL l k=true->l[j]?=some o->∀e∈o.after.toList,Region.binds .any e=true->e.on<k+j
 |[],_,_,_,_,h=>by simp at h
 |o::l,k,0,o',m,h=>by
  simp at h;subst h;simp only[qL,Bool.and_eq_true,List.all_eq_true]at m;intro e he hb;have:=m.1 e he;simpa [hb]using this
 |o::l,k,j+1,o',m,h=>by
  simp only[qL,Bool.and_eq_true]at m;intro e he hb;have:=rS l (k+1) j o' m.2 (by simpa using h) e he hb;omega
theorem sf{ops:List Oper}(E:qL ops 0=true){s:Nat->Bool}(I:∀(j:Nat) (o:Oper),ops[j]?=some o->s j=true->∀e∈o.after.toList,Region.binds .any e=true->s e.on=true):
  ∀(j:Nat) (o:Oper),ops[j]?=some o->(∀e∈o.after.toList,Region.binds .any e=true->s e.on=true)->∀i,((tW [] ops).getD j 0).testBit i=true->s i=true:=by
 intro j;induction j using Nat.strongRecOn with
 |_ j O=>
  intro o J he i M;obtain⟨q,h1,h2,T⟩:=Bj ops [] j o J;simp only[List.length_nil,Nat.zero_add]at h1 h2;rw[List.getD_eq_getElem?_getD,h1]at M;simp only[Option.getD_some,wZ]at M;rcases qx q i _ _ M with h|⟨e,z,C,m⟩
  ·simp at h
  ·have D:=he e z C;rcases m with rfl|m
   ·exact D
   ·have N:e.on<j:=by have:=rS ops 0 j o E J e z C;omega
    cases p:ops[e.on]? with
    |none=>
     have:=List.getElem?_eq_none_iff.1 p;have:=(List.getElem?_eq_some_iff.1 J).1;omega
    |some o'=>
     refine O e.on N o' p (I e.on o' p D) i ?_;rw[List.getD_eq_getElem?_getD,T e.on (by omega),<-List.getD_eq_getElem?_getD];exact m
theorem uA{ops:List Oper}{b:Ent}{m:Nat}:∀(l:List Ent) (k i:Nat) (a:Ent),sB ops b m l k=true->l[i]?=some a->(m.testBit (k+i)=true\/AU ops a b=true\/tp ops a b (l.drop (i+1))=true)/\∀p∈a.ws,p.1<b.nid
 |[],_,_,_,_,h=>by simp at h
 |x::l,k,0,a,j,h=>by
  simp at h;subst h;simp only[sB,Bool.and_eq_true,Bool.or_eq_true,List.all_eq_true,decide_eq_true_eq]at j;exact⟨by simpa [or_assoc]using j.1.1,j.1.2⟩
 |x::l,k,i+1,a,j,h=>by
  simp only[sB,Bool.and_eq_true]at j;have:=uA l (k+1) i a j.2 (by simpa using h);rwa[show k+1+i=k+(i+1)by omega]at this
theorem ph{ops:List Oper}{m:List Nat}{all:List Ent}:∀(l:List Ent) (k j i:Nat) (a b:Ent),pz ops m all l k=true->l[j]?=some b->i<k+j->all[i]?=some a->
  ((m.getD (k+j) 0).testBit i=true\/AU ops a b=true\/tp ops a b ((all.take (k+j)).drop (i+1))=true)/\∀p∈a.ws,p.1<b.nid
 |[],_,_,_,_,_,_,h,_,_=>by simp at h
 |x::l,k,0,i,a,b,q,h,z,ha=>by
  simp at h;subst h;simp only[pz,Bool.and_eq_true]at q;have:=uA _ 0 i a q.1 (by rw[List.getElem?_take,if_pos (by omega)];exact ha);simpa using this
 |x::l,k,j+1,i,a,b,q,h,z,ha=>by
  simp only[pz,Bool.and_eq_true]at q;have:=ph l (k+1) j i a b q.2 (by simpa using h) (by omega) ha;rwa[show k+1+j=k+(j+1)by omega]at this
theorem kY{l k:List Nat}(h:ue l k=true){x:Nat}(hx:x∈l):x∉k:=by
 simp only[ue,List.all_eq_true,Bool.not_eq_true',List.contains_eq_mem]at h;have:=h x hx;simpa using this
theorem xq{l:List Operand}{t:Tmp}(h:Operand.tmp t∈l):t∈BY l:=by
 simp only[BY,List.mem_filterMap];exact⟨_,h,rfl⟩
theorem zy{s r:List AV}{x:Operand}(h:∀t,x=.tmp t->s[t]?=r[t]?):evA s x=evA r x:=by
 cases x with
 |tmp t=>simp only[evA,uk,List.getD_eq_getElem?_getD,h t rfl]
 |_=>rfl
theorem yH{ops:List Oper}{o:Oper}{s r:List AV}(h:∀t∈eL ops o,s[t]?=r[t]?):dj ops o s=dj ops o r:=by
 unfold dj;cases m:o.guard with
 |none=>rfl
 |some g=>
  obtain⟨j,want⟩:=g;simp only;cases p:ops[j]? with
  |none=>rfl
  |some oj=>
   simp only;cases hd:oj.dst with
   |none=>rfl
   |some d=>
    simp only;have:s[d]?=r[d]?:=h d (by simp[eL,m,p,hd]);simp only[uk,List.getD_eq_getElem?_getD,this]
theorem Cv{P:Program}(T:tU P){call:ef}(U:gU P call){ops:Array Oper}{o:Oper}{p st1 C:St}{e:Ent}(h:kD P call ops.toList o p=some (st1,some e))(a4:nU p.heap.length e=true)
  (hle:p.heap.length+e.n<=C.heap.length) (hs:∀t∈eL ops.toList o,C.slots[t]?=p.slots[t]?) (hh:(∀b∈e.rd,C.heap[b]?=p.heap[b]?)\/((∃t m k,o.op=.lookup t m k false)/\∀r,evalOp P (evA p.slots) p.heap p.heap.length o=some r->evalOp P (evA p.slots) C.heap p.heap.length o=some r))
  {out:Nat->Prop} {B:Nat->Prop} {w:World} {π:List (Option PB)} {a:Act} (z:Rep out B w π C a) (D:∀b∈eN e.ws,p.heap.length<=b->∀q,π[b]?≠some (some q))
  {K:Act->World->Prop} {Q:Exit->Act->World->Prop}
  (hK:∀a' w' π',Rep out B w' π' (eW e C) a'->Ext B w w' (aG out π C.heap) (aG out π' (eW e C).heap) π π'->(∀j,j∉eN e.ws->π'[j]?=π[j]?)->K a' w'):
  if Region.wanted o (yielded ops a.tmps)then o.wp P a w K Q\/(o.asks P a w/\LetsOut Q)else K (a.put o.dst undef) w:=by
 obtain⟨a5,a0,O⟩:=qw a4;have E:∀{ws:List (Nat×Blk)} {π':List (Option PB)},(∀j,(∀b,(j,b)∉ws)->π'[j]?=π[j]?)->∀j,j∉eN ws->π'[j]?=π[j]?:=by
  intro ws π' hk j hj;refine hk j fun b hb=>hj ?_
  simp only[eN,List.mem_map];exact⟨_,hb,rfl⟩
 have a1:dj ops.toList o C.slots=dj ops.toList o p.slots:=yH hs;have a2:∀x∈o.op.operands.toList,evA p.slots x=evA C.slots x:=by
  intro x hx;refine(zy fun t ht=>?_).symm;subst ht;exact hs t (by simp only[eL,List.mem_append];exact .inl (xq hx))
 unfold kD at h;split at h
 ·rename_i hw;rw[<-a1]at hw;rw[if_pos (nj z.slots hw)];refine .inl ?_;unfold Oper.wp;have J:∀r,evalOp P (evA p.slots) p.heap p.heap.length o=some r->((∀b∈qU p.heap (evA p.slots) o,C.heap[b]?=p.heap[b]?)\/((∃t m k,o.op=.lookup t m k false)/\∀r,evalOp P (evA p.slots) p.heap p.heap.length o=some r->evalOp P (evA p.slots) C.heap p.heap.length o=some r))->evalOp P (evA C.slots) C.heap p.heap.length o=some r:=by
   intro r hr hb;rw[<-yr a2];rcases hb with hb|⟨_,hb⟩
   ·rw[<-hr];exact(BO fun b hm=>(hb b hm).symm).symm
   ·exact hb r hr
  split at h
  ·rename_i v N;rw[eU]at h;cases h;have I:=J _ N hh;rcases xr I with⟨_,_,_,e1,_⟩|M
   ·cases e1
   obtain⟨nx,u,h1,h2,Y⟩:=kp T z.inv (Nat.le_refl _) (sO z.inv) (ko z.slots) (M C.heap.length);rw[h1];rcases h2 with rfl|⟨rfl,rfl⟩
   ·exact hK _ _ π (Rep.ext z.defers z.slots (Ext.refl _ _ _) z.inv Y) (Ext.refl _ _ _) fun _ _=>rfl
   ·exact hK _ _ π (Rep.ext z.defers z.slots (Ext.refl _ _ _) z.inv Y) (Ext.refl _ _ _) fun _ _=>rfl
  ·rename_i v ws N;rw[eU]at h;cases h;have I:=J _ N hh;have:∃n,n<=C.heap.length/\(∀q,π[n]?≠some (some q))/\evalOp P (evA C.slots) C.heap n o=some (.eff v ws):=by
    rcases xr I with⟨_,_,y,e1,h0⟩|M
    ·cases e1;refine⟨p.heap.length,by simp only at hle;omega,D _ ?_ (Nat.le_refl _),I⟩;simp only[eN,List.mem_map];exact⟨_,h0,rfl⟩
    ·exact⟨C.heap.length,Nat.le_refl _,sO z.inv,M _⟩
   obtain⟨n,hn,hf,a3⟩:=this;obtain⟨nx,u,w',π',h1,h2,Y,h4,h5,h6⟩:=kp T z.inv hn hf (ko z.slots) a3;rw[h1];rcases h2 with rfl|⟨rfl,rfl⟩
   ·exact hK _ _ π' (Rep.ext z.defers z.slots Y h4 h5) Y (E h6)
   ·exact hK _ _ π' (Rep.ext z.defers z.slots Y h4 h5) Y (E h6)
  ·rename_i f args N;have I:evalOp P (evA C.slots) C.heap C.heap.length o=some (.call f args):=by
    have e1:evalOp P (evA C.slots) p.heap p.heap.length o=some (.call f args):=by rw[<-yr a2];exact N
    unfold evalOp at e1 ⊢;cases ho:o.op<;>simp only[ho]at e1 ⊢
    case call c=>
     unfold vt at e1 ⊢;cases hc:c.callee<;>simp only[hc]at e1 ⊢
     case value g=>exact e1
     case builtin b=>
      exfalso;unfold nA at e1;split at e1
      ·split at e1
       ·unfold bj.ofP at e1;split at e1<;>cases e1
       ·cases e1
      ·split at e1
       ·split at e1
        ·split at e1
         ·split at e1
          ·unfold mi at e1;split at e1
           ·cases e1
           ·split at e1
            ·split at e1<;>cases e1
            ·split at e1<;>cases e1
            ·split at e1
             ·split at e1<;>cases e1
             ·split at e1<;>cases e1
             ·cases e1
            ·cases e1
          ·cases e1
         ·cases e1
        ·split at e1
         ·unfold u6 at e1;(repeat' split at e1)<;>cases e1
         ·cases e1
        ·cases e1
       ·cases e1
      ·split at e1
       ·split at e1
        ·split at e1
         ·unfold xw at e1;(repeat' split at e1)<;>cases e1
         ·cases e1
        ·cases e1
       ·cases e1
      ·split at e1
       ·split at e1
        ·split at e1
         ·unfold tP at e1;(repeat' split at e1)<;>cases e1
         ·cases e1
        ·cases e1
       ·cases e1
      ·split at e1
       ·split at e1<;>cases e1
       ·cases e1
      ·split at e1
       ·split at e1<;>cases e1
       ·cases e1
      ·split at e1
       ·split at e1<;>cases e1
       ·cases e1
      ·cases e1
     case invoke=>cases e1
    case makeFunc fn fs cs=>exfalso;cases fn<;>simp[nz]at e1
    case slice t x lo hi mx=>
     exfalso;cases mx with
     |some m=>simp[nz]at e1
     |none=>simp only[uR,bj.ofP]at e1;(repeat' split at e1)<;>cases e1
    case makeMap t r=>
     exfalso;simp only[nz,qz]at e1;(repeat' split at e1)<;>cases e1
    case lookup t x ix ok=>
     exfalso;simp only[nz,bj.ofP]at e1;(repeat' split at e1)<;>cases e1
    case mapUpdate t m k x=>
     exfalso;simp only[nz,gg]at e1;(repeat' split at e1)<;>cases e1
    case insert t m k x=>
     exfalso;simp only[nz,gg]at e1;(repeat' split at e1)<;>cases e1
    case mapEntry t m k=>
     exfalso;simp only[nz,nm]at e1;(repeat' split at e1)<;>cases e1
    case entryStore t m k x=>
     exfalso;simp only[nz,lW]at e1;(repeat' split at e1)<;>cases e1
    case range t x=>
     exfalso;simp only[nz,ow]at e1;(repeat' split at e1)<;>cases e1
    case entry it=>
     exfalso;simp only[nz,jh]at e1;(repeat' split at e1)<;>cases e1
    all_goals exfalso
    all_goals try simp only[nz,xn,sJ,yT,uv,kq,uC,oP,qs,lQ,bj.ofP,Ft]at e1
    all_goals (repeat' split at e1)<;>first|cases e1|skip
   obtain⟨vs,h1,h2⟩:=kp T z.inv (Nat.le_refl _) (sO z.inv) (ko z.slots) I;rw[h1];simp only[Oper.upon];split at h
   ·rename_i v ws rd n hc;rw[eU]at h;cases h;simp only at O a0 hle D;have hh:=hh.resolve_right fun hx=>by
     obtain⟨⟨t,m,k,ht⟩,_⟩:=hx;unfold evalOp at N;rw[ht]at N;simp only[nz,bj.ofP]at N
     (repeat' split at N)<;>cases N
    have:=U _ _ _ _ hc C.heap hle (fun b hb _=>hh b hb) out B w π vs.toList z.inv (fun j g1 g2=>D j (by
      have:=O (j-p.heap.length) (by omega);rwa[show p.heap.length+(j-p.heap.length)=j by omega]at this) g1) h2
    rw[Array.toArray_toList]at this;refine this.mono ?_;rintro e a6 ⟨u,π',rfl,g1,g2,g3,g4⟩;exact hK _ _ π' (Rep.ext z.defers z.slots g1 g2 g3) g1 (E g4)
   ·rw[eU]at h;cases h
   ·cases h
  ·cases h
 ·rename_i hw;rw[<-a1]at hw;rw[nj z.slots hw];simp only[Bool.false_eq_true,if_false];rw[eU]at h;cases h;exact hK _ _ π (Rep.ext z.defers z.slots (Ext.refl _ _ _) z.inv rfl) (Ext.refl _ _ _) fun _ _=>rfl
 ·cases h
theorem getD_set_true{l:Array Bool}{i j:Nat}(m:i<l.size):(l.setIfInBounds i true).getD j false=(l.getD j false||decide (j=i)):=by
 simp only[Array.getD_eq_getD_getElem?,Array.getElem?_setIfInBounds];by_cases h:i=j
 ·subst h;simp[m]
 ·have p:¬j=i:=fun e=>h e.symm
  simp[h,p]
theorem getD_none{n:Nat}(i:Nat):(Array.replicate n false).getD i false=false:=by
 rw[Array.getD_eq_getD_getElem?,Array.getElem?_replicate];split<;>rfl
theorem Gb{l:Array Bool}{i:Nat}(h:l.getD i true=false):i<l.size/\l.getD i false=false:=by
 rw[Array.getD_eq_getD_getElem?]at h ⊢;cases j:l[i]? with
 |none=>rw[j]at h;simp at h
 |some x=>rw[j]at h;exact⟨(Array.getElem?_eq_some_iff.1 j).1,by simpa using h⟩
theorem zn{ops:List Oper}{a b:Ent}{j:List Ent}(h:tp ops a b j=true):a.ws=[]/\ue a.o.dst.toList (eL ops b.o)=true/\ue a.o.dst.toList b.o.dst.toList=true/\ue b.o.dst.toList (eL ops a.o)=true:=by
 unfold tp at h;split at h
 ·simp only[Bool.and_eq_true]at h;obtain⟨⟨⟨⟨⟨_,m⟩,p⟩,q⟩,z⟩,_⟩:=h;exact⟨List.isEmpty_iff.1 m,p,q,z⟩
 ·cases h
theorem uT{ops:List Oper}{es:List Ent}(q:pz ops (tW [] ops) es es 0=true){i j:Nat}{a b:Ent}(D:i<j)(ha:es[i]?=some a)(hb:es[j]?=some b)
  (hm:(∃x,x∈eN a.ws/\(x∈b.rd\/x∈eN b.ws))\/(∃t,t∈a.o.dst.toList/\(t∈eL ops b.o\/t∈b.o.dst.toList))\/(∃t,t∈b.o.dst.toList/\t∈eL ops a.o)):
  ((tW [] ops).getD j 0).testBit i=true:=by
 have:=(ph es 0 j i a b q hb (by omega) ha).1;rw[Nat.zero_add]at this;rcases this with h|h|h
 ·exact h
 ·exfalso;simp only[AU,Bool.and_eq_true]at h;obtain⟨⟨⟨⟨⟨h1,h2⟩,C⟩,E⟩,I⟩,M⟩:=h;rcases hm with⟨x,hx,z|z⟩|⟨t,p,m|m⟩|⟨t,p,m⟩
  ·exact kY E hx z
  ·exact kY I hx z
  ·exact kY h1 p m
  ·exact kY h2 p m
  ·exact kY C p m
 ·exfalso;obtain⟨J,h1,h2,C⟩:=zn h;rcases hm with⟨x,hx,_⟩|⟨t,p,m|m⟩|⟨t,p,m⟩
  ·rw[J]at hx;simp[eN]at hx
  ·exact kY h1 p m
  ·exact kY h2 p m
  ·exact kY C p m
theorem ES{ops:List Oper}{es:List Ent}(m:pz ops (tW [] ops) es es 0=true){i j:Nat}{a b:Ent}(p:i<j)(ha:es[i]?=some a)(hb:es[j]?=some b){x:Nat}(hx:x∈eN b.ws)(q:x∈a.rd):
  ((tW [] ops).getD j 0).testBit i=true\/tp ops a b ((es.take j).drop (i+1))=true:=by
 have:=(ph es 0 j i a b m hb (by omega) ha).1;rw[Nat.zero_add]at this;rcases this with h|h|h
 ·exact .inl h
 ·exfalso;simp only[AU,Bool.and_eq_true]at h;exact kY h.2 hx q
 ·exact .inr h
theorem zo:∀(l:List Value),ve l=true->qQ l l=some true
 |[],_=>rfl
 |.int k x::l,h=>by
  have j:IntKind.ua k k=true\/IntKind.ua k k=false:=by cases IntKind.ua k k<;>simp
  have j:IntKind.ua k k=true:=by cases k<;>first|rfl|(simp[ve]at h;done)
  simp only[qQ,j,zo l (by simpa [ve]using h)];simp
theorem Fu{P:Program}{t:TypeId}{k:Value}(h:jE P t k=true):kEq k k=some true:=by
 unfold jE at h;split at h
 ·rename_i p j n hu;have m:IntKind.ua j j=true:=by
   have:=IntKind.oc h;subst this;exact h
  simp[kEq,m]
 ·simp[kEq]
 ·rename_i d a _;have:ve a.toList=true:=by
   unfold ot at h;split at h
   ·simp only[Bool.and_eq_true]at h;exact h.2
   ·simp only[Bool.and_eq_true]at h;exact h.1.2
   ·cases h
  simp only[kEq,zo _ this]
 ·cases h
theorem Hm{k v:Value}(h:kEq k v=some true):v=k:=by
 unfold kEq at h;split at h
 ·rename_i a b;obtain⟨h1,_⟩:=vL _ _ h;rw[Array.toList_inj.1 h1]
 ·split at h
  ·rename_i hb;have e:=IntKind.oc hb;subst e;simp only[Option.some.injEq,beq_iff_eq]at h;rw[h]
  ·cases h
 ·simp only[Option.some.injEq,beq_iff_eq]at h;rw[h]
 ·cases h
theorem wL{k:Value}:∀(es:List (Value×AV)) (i0 i:Nat) (A:AV),mz k es i0=some (some (i,A))->∃j,i=i0+j/\es[j]?=some (k,A)
 |[],_,_,_,h=>by simp[mz]at h
 |(k',p)::es,i0,i,A,h=>by
  simp only[mz]at h;split at h
  ·rename_i m;cases h;exact⟨0,rfl,by rw[Hm m];rfl⟩
  ·obtain⟨j,h1,h2⟩:=wL es (i0+1) i A h;exact⟨j+1,by omega,by simpa using h2⟩
  ·cases h
theorem xh{k:Value}{z:AV}(j:kEq k k=some true):∀(es:List (Value×AV)) (i0:Nat),mz k es i0=some none->mz k (es++[(k,z)]) i0=some (some (i0+es.length,z))
 |[],i0,_=>by simp[mz,j]
 |(k',m)::es,i0,h=>by
  simp only[mz]at h;simp only[List.cons_append,mz];split at h
  ·cases h
  ·rw[xh j es (i0+1) h];congr 3;simp;omega
  ·cases h
theorem BN{P:Program}{H H':List Blk}{t:TypeId}{x k:AV}{A:AV}(p:eh P H t x k false=some A){b:Nat}(hx:x=.mp b){H1:List Blk}(h1:H1[b]?=H[b]?){v:AV}{ws:List (Nat×Blk)}(he:nm P H1 t x k=some (.eff v ws)):
  ∃X,ws=[(b,X)]/\(H'[b]?=some X->eh P H' t x k false=some A):=by
 subst hx;unfold nm at he;unfold eh at p;have hm:ks H1 (.mp b)=ks H (.mp b):=by simp only[ks,h1]
 rw[hm]at he;split at p
 ·rename_i kt e b' es kv hu m C;obtain⟨a0,rfl⟩:H[b]?=some (.map es)/\b'=b:=by
   simp only[ks]at m;split at m
   ·rename_i es' N;cases m;exact⟨N,rfl⟩
   ·cases m
  rw[hu,m,C]at he;simp only at he;split at p
  ·rename_i z i T D I E;rw[D,I,E]at he;simp only at he;cases he;refine⟨_,rfl,fun M=>?_⟩;obtain⟨j,U,Y⟩:=wL es 0 i T E;have J:es.set i (kv,T)=es:=by
    rw[Nat.zero_add]at U;subst U;apply List.ext_getElem?;intro q;rw[List.getElem?_set];split
    ·rename_i hq;subst hq;rw[if_pos (List.getElem?_eq_some_iff.1 Y).1,Y]
    ·rfl
   rw[J]at M;simp only[eh,hu,ks,M,C,D,I,E];exact p
  ·rename_i z D I E;rw[D,I,E]at he;simp only at he;cases he;refine⟨_,rfl,fun M=>?_⟩;have O:=xh (z:=z) (Fu D) es 0 E;simp only[eh,hu,ks,M,C,D,I,O];exact p
  ·cases p
 ·cases p
theorem B5{P:Program}(m2:tU P)(hm:P.follows .mixedOrders=true){call:ef}(e9:gU P call){ops:Array Oper}{id:Nat}{st st':St}(h:kg P call ops.toList true st=some st')
  {out:Nat->Prop} {B:Nat->Prop} {w:World} {π:List (Option PB)} {a:Act} (hR:Rep out B w π st a) {Q:Exit->Act->World->Prop}
  (hQ:∀a' w' π',Rep out B w' π' st' a'->Ext B w w' (aG out π st.heap) (aG out π' st'.heap) π π'->Q .normal a' w'):(Code.region id ops true).wp P Q a w:=by
 unfold kg at h;simp only at h;split at h
 ·rename_i n9 es m3;split at h
  ·rename_i k3;cases h;simp only[Bool.and_eq_true]at k3;obtain⟨a4,a5⟩:=k3;obtain⟨L,b6⟩:∃L,L=st'.heap.length:=⟨_,rfl⟩;obtain⟨t1,t2,t3,t4,t5⟩:=wy (L:=L) ops.toList st st' es m3 (by omega);rw[<-b6]at t3;obtain⟨D,a2⟩:∃D:St,D=⟨st.slots,pad L st.heap⟩:=⟨_,rfl⟩;have E:D.heap.length=L:=by rw[a2];exact qD (by omega)
   obtain⟨g0,k4⟩:=hR.inv.same (w':={w with drawn:=w.drawn+1}) rfl rfl rfl rfl (fun _=>Nat.le_succ _);obtain⟨g9,c5⟩:=k4.extend (L-st.heap.length);obtain⟨π0,hπ0⟩:∃π0,π0=π++List.replicate (L-st.heap.length) none:=⟨_,rfl⟩;rw[<-hπ0]at g9 c5;have m4:Rep out B {w with drawn:=w.drawn+1} π0 D a:=by
    rw[a2];exact⟨hR.defers,RvL.ext c5 _ _ (RvL.ext g0 _ _ hR.slots),g9⟩
   have b7:∀b,st.heap.length<=b->∀q,π0[b]?≠some (some q):=by
    intro b hb q hq;have:=hR.inv.len;rw[hπ0,List.getElem?_append_right (by omega)]at hq;have:=List.mem_of_getElem? hq;simp at this
   have k5:Ext B w {w with drawn:=w.drawn+1} (aG out π st.heap) (aG out π0 D.heap) π π0:=by rw[a2];exact g0.trans c5
   clear c5 g0 k4 g9;refine wp_region_any hm ?_;have key:∀(fuel:Nat) (C:Array Bool) (a:Act) (w1:World) (π1:List (Option PB)),C.size=ops.size->((List.range ops.size).countP fun i=>!C.getD i false)=fuel->
     (∀(j:Nat) (o:Oper),ops.toList[j]?=some o->C.getD j false=true->∀e∈o.after.toList,Region.binds .any e=true->C.getD e.on false=true)->
     Rep out B w1 π1 (cu es (fun j=>C.getD j false) 0 D) a->
     Ext B w w1 (aG out π st.heap) (aG out π1 (cu es (fun j=>C.getD j false) 0 D).heap) π π1->
     (∀b,st.heap.length<=b->(∀(j:Nat) (e:Ent),es[j]?=some e->C.getD j false=true->b∉eN e.ws)->∀q,π1[b]?≠some (some q))->
     wpAny P .any ops Q fuel C a w1:=by
    intro fuel;induction fuel with
    |zero=>
     intro C a w1 π1 k6 a6 b1 c6 c7 h6;have e6:∀i,i<ops.size->C.getD i false=true:=by
      intro i hi;rw[List.countP_eq_zero]at a6;have:=a6 i (by simpa using hi);simpa using this
     have b8:cu es (fun j=>C.getD j false) 0 D=st':=by
      have e1:cu es (fun j=>C.getD j false) 0 D=cu es (fun _=>true) 0 D:=by
       have hs:∀(j:Nat) (e:Ent),es[j]?=some e->C.getD (0+j) false=true:=fun j e he=>by
        rw[Nat.zero_add];exact e6 j (by have:=aN he;rw[t2]at this;simpa using this)
       have l1:=oz es (fun j=>C.getD j false) 0 D t3 E;have l2:=oz es (fun _=>true) 0 D t3 E;have h7:(cu es (fun j=>C.getD j false) 0 D).slots=(cu es (fun _=>true) 0 D).slots:=
        List.ext_getElem? fun t=>ji es _ _ 0 D D rfl rfl fun j e he _=>hs j e he
       have h8:(cu es (fun j=>C.getD j false) 0 D).heap=(cu es (fun _=>true) 0 D).heap:=
        List.ext_getElem? fun b=>jo es _ _ 0 D D t3 E E rfl fun j e he _=>hs j e he
       cases hA:cu es (fun j=>C.getD j false) 0 D;cases hB:cu es (fun _=>true) 0 D;rw[hA,hB]at h7 h8;simp only at h7 h8;rw[h7,h8]
      rw[e1,a2,t4,b6,Ey]
     refine⟨?_,?_⟩
     ·unfold Region.ready;rw[List.filter_eq_nil_iff];intro i hi;have m5:i<ops.size:=by simpa using hi
      have h1:=e6 i m5;have h2:C.getD i true=true:=by
       rw[Array.getD_eq_getD_getElem?]at h1 ⊢;cases hl:C[i]? with
       |none=>rfl
       |some x=>rw[hl]at h1;simpa using h1
      simp[h2]
     ·rw[b8]at c6 c7;exact hQ a w1 π1 c6 c7
    |succ fuel ih=>
     intro C a w1 π1 k6 a6 b1 c6 c7 h6;refine⟨?_,?_⟩
     ·
      intro k7;exfalso;have hex:∃i,i<ops.size/\C.getD i false=false:=by
       have e7:0<(List.range ops.size).countP fun i=>!C.getD i false:=by omega
       rw[List.countP_pos_iff]at e7;obtain⟨i,h1,h2⟩:=e7;exact⟨i,by simpa using h1,by simpa using h2⟩
      have k8:∃i,i<ops.size/\C.getD i false=false/\∀k,k<i->C.getD k false=true:=by
       obtain⟨i,h1,h2⟩:=hex;induction i using Nat.strongRecOn with
       |_ i m6=>
        by_cases hk:∃k,k<i/\C.getD k false=false
        ·obtain⟨k,k1,k2⟩:=hk;exact m6 k k1 (by omega) k2
        ·exact⟨i,h1,h2,fun k m7=>by
          cases hv:C.getD k false with
          |true=>rfl
          |false=>exact(hk ⟨k,m7,hv⟩).elim⟩
      obtain⟨i,h1,h2,h3⟩:=k8;have a0:i∈Region.ready .any ops C:=by
       unfold Region.ready;rw[List.mem_filter];refine⟨by simpa using h1,?_⟩;have M:i<C.size:=by omega
       have e1:C.getD i true=false:=by
        rw[Array.getD_eq_getD_getElem?]at h2 ⊢;rw[Array.getElem?_eq_getElem M]at h2 ⊢;simpa using h2
       have e2:ops[i]?=some ops[i]:=Array.getElem?_eq_getElem h1;rw[e1,e2];simp only[Bool.not_false,Bool.true_and,Option.map_some,Option.getD_some,Array.all_eq_true'];intro e he;cases hb:Region.binds .any e with
       |false=>rfl
       |true=>
        have:=rS ops.toList 0 i ops[i] a4 (by simp[h1]) e (by simpa using he) hb;simp only[Bool.not_true,Bool.false_or];exact h3 _ (by omega)
      rw[k7]at a0;cases a0
     ·intro i hi;unfold Region.ready at hi;rw[List.mem_filter]at hi;obtain⟨b9,c8⟩:=hi;have b9:i<ops.size:=by simpa using b9
      simp only[Bool.and_eq_true,Bool.not_eq_true']at c8;obtain⟨c8,j0⟩:=c8;obtain⟨a3,O⟩:=Gb c8;obtain⟨o,ho⟩:∃o,ops[i]?=some o:=⟨ops[i],Array.getElem?_eq_getElem b9⟩;have j1:ops.toList[i]?=some o:=by rw[Array.getElem?_toList];exact ho
      rw[ho]at j0;simp only[Option.map_some,Option.getD_some,Array.all_eq_true']at j0;have c0:∀e∈o.after.toList,Region.binds .any e=true->C.getD e.on false=true:=by
       intro e he hb;have:=j0 e (by simpa using he);simpa [hb]using this
      obtain⟨e,he⟩:∃e,es[i]?=some e:=by
       have:i<es.length:=by rw[t2];simpa using b9
       exact⟨es[i],geT this⟩
      obtain⟨o2,I,st1,g1,g2,g3,g4,g5,g6,g7,g8⟩:=t5 i e he;rw[j1]at g1;cases g1;subst g4;have T:∀j b,j<i->es[j]?=some b->((∃x,x∈eN b.ws/\(x∈e.rd\/x∈eN e.ws))\/(∃t,t∈b.o.dst.toList/\(t∈eL ops.toList e.o\/t∈e.o.dst.toList))\/(∃t,t∈e.o.dst.toList/\t∈eL ops.toList b.o))->
        C.getD j false=true:=by
       intro j b hj hb j2;have a7:=uT a5 hj hb he j2;exact sf a4 (s:=fun j=>C.getD j false) b1 i e.o j1 c0 j a7
      have J:∀j b,i<j->es[j]?=some b->((∃x,x∈eN e.ws/\(x∈b.rd\/x∈eN b.ws))\/(∃t,t∈e.o.dst.toList/\(t∈eL ops.toList b.o\/t∈b.o.dst.toList))\/(∃t,t∈b.o.dst.toList/\t∈eL ops.toList e.o))->
        C.getD j false=false:=by
       intro j b hj hb j2;have a7:=uT a5 hj he hb j2;cases hv:C.getD j false with
       |false=>rfl
       |true=>
        have a8:j<ops.toList.length:=by rw[<-t2];exact aN hb
        have:=sf a4 (s:=fun j=>C.getD j false) b1 j ops.toList[j] (geT a8) (b1 j _ (geT a8) hv) i a7;rw[this]at O;cases O
      have c1:=oz es (fun j=>C.getD j false) 0 D t3 E;have N:cu es (fun j=>decide (j<0+i)) 0 D=⟨I.slots,pad L I.heap⟩:=by rw[tS,a2,g8]
      have c9:∀t∈eL ops.toList e.o,(cu es (fun j=>C.getD j false) 0 D).slots[t]?=I.slots[t]?:=by
       intro t ht;have:=ji (t:=t) es (fun j=>C.getD j false) (fun j=>decide (j<0+i)) 0 D D rfl rfl (fun j b hb hw=>by
        simp only[Nat.zero_add];rcases Nat.lt_trichotomy j i with M|rfl|U
        ·rw[T j b M hb (.inr (.inl ⟨t,hw,.inl ht⟩))];simp[M]
        ·rw[O];simp
        ·rw[J j b U hb (.inr (.inr ⟨t,hw,ht⟩))];simp;omega)
       rw[this,N]
      have j3:=(qw g3).1;have a9:∀j b,i<j->es[j]?=some b->∀x,x∈eN b.ws->x∈e.rd->C.getD j false=false\/tp ops.toList e b ((es.take j).drop (i+1))=true:=by
       intro j b hj hb x hx hr;rcases ES a5 hj he hb hx hr with a7|hs
       ·left;cases hv:C.getD j false with
        |false=>rfl
        |true=>
         have a8:j<ops.toList.length:=by rw[<-t2];exact aN hb
         have:=sf a4 (s:=fun j=>C.getD j false) b1 j ops.toList[j] (geT a8) (b1 j _ (geT a8) hv) i a7;rw[this]at O;cases O
       ·exact .inr hs
      have j4:(∀b∈e.rd,(cu es (fun j=>C.getD j false) 0 D).heap[b]?=I.heap[b]?)\/((∃t m k,e.o.op=.lookup t m k false)/\∀r,evalOp P (evA I.slots) I.heap I.heap.length e.o=some r->evalOp P (evA I.slots) (cu es (fun j=>C.getD j false) 0 D).heap I.heap.length e.o=some r):=by
       by_cases hex:∃j b,i<j/\es[j]?=some b/\C.getD j false=true/\tp ops.toList e b ((es.take j).drop (i+1))=true
       ·right;obtain⟨j,b,b4,hb,m8,Y⟩:=hex;obtain⟨sw,m9,o0,o1⟩:=zn Y;unfold tp at Y;split at Y
        ·rename_i t m k t' m' k' c2 e8;simp only[Bool.and_eq_true]at Y;obtain⟨⟨⟨⟨⟨⟨⟨⟨⟨q1,q2⟩,q3⟩,q4⟩,q5⟩,_⟩,_⟩,_⟩,_⟩,qm⟩:=Y;obtain rfl:=Nat.eq_of_beq_eq_true q1;obtain rfl:=Nat.eq_of_beq_eq_true q2;obtain rfl:=Nat.eq_of_beq_eq_true q3;refine⟨⟨_,_,_,c2⟩,fun r hr=>?_⟩;have c3:∀q c,i<q->q<j->es[q]?=some c->(∀x∈eN c.ws,x∉e.rd)/\m∉c.o.dst.toList/\k∉c.o.dst.toList:=by
          intro q c h1 h2 hc;have a0:c∈(es.take j).drop (i+1):=by
           refine List.mem_of_getElem? (i:=q-(i+1)) ?_;rw[List.getElem?_drop,show i+1+(q-(i+1))=q by omega,List.getElem?_take,if_pos h2];exact hc
          have:=List.all_eq_true.1 qm c a0;simp only[Bool.and_eq_true,Bool.not_eq_true']at this;obtain⟨⟨h3,h4⟩,h5⟩:=this;exact⟨fun x hx=>kY h3 hx,by simpa using h4,by simpa using h5⟩
         obtain⟨o3,sj,o4,f1,f2,f3,f4,f5,f6,f7,f8⟩:=t5 j b hb;have k9:cu es (fun q=>decide (q<0+j)) 0 D=⟨sj.slots,pad L sj.heap⟩:=by rw[tS,a2,f8]
         have n0:∀y∈b.o.op.operands.toList,∀t,y=.tmp t->t∈eL ops.toList b.o:=fun y hy t ht=>by
          subst ht;simp only[eL,List.mem_append];exact .inl (xq hy)
         have n1:∀y,y∈[m,k]->I.slots[y]?=sj.slots[y]?:=by
          intro y hy;have n2:y∈eL ops.toList b.o:=n0 (.tmp y) (by rw[e8];simp[Op.operands]at hy ⊢;rcases hy with h|h<;>simp[h]) y rfl;have:=ji (t:=y) es (fun q=>decide (q<0+i)) (fun q=>decide (q<0+j)) 0 D D rfl rfl (fun q c hc hw=>by
           simp only[Nat.zero_add];rcases Nat.lt_trichotomy q i with M|rfl|U
           ·simp[M,Nat.lt_trans M b4]
           ·rw[he]at hc;cases hc;exact(kY m9 hw n2).elim
           ·by_cases c4:q<j
            ·obtain⟨_,z1,z2⟩:=c3 q c U c4 hc;simp at hy;rcases hy with h|h
             ·exact(z1 (h▸hw)).elim
             ·exact(z2 (h▸hw)).elim
            ·simp;omega)
          rw[N,k9]at this;exact this
         have l0:∀y,y∈[m,k]->evA sj.slots (.tmp y)=evA I.slots (.tmp y):=fun y hy=>(zy fun t ht=>by cases ht;exact n1 y hy).symm
         have eo:∀(ρ:Operand->AV) (H:List Blk) (nid:Nat),evalOp P ρ H nid e.o=bj.ofP (eh P H t (ρ (.tmp m)) (ρ (.tmp k)) false):=fun ρ H nid=>by
          unfold evalOp;rw[c2];rfl
         rw[eo]at hr ⊢;cases a1:eh P I.heap t (evA I.slots (.tmp m)) (evA I.slots (.tmp k)) false with
         |none=>rw[a1]at hr;cases hr
         |some A=>
          rw[a1]at hr;obtain⟨b0,j5⟩:∃b0,evA I.slots (.tmp m)=.mp b0:=by
           unfold eh ks at a1;split at a1
           ·rename_i l3 _;split at l3
            ·exact⟨_,by assumption⟩
            ·cases l3
           ·cases a1
          have g1:e.o.guard=none:=by simpa using q4
          have n3:b.o.guard=none:=by simpa using q5
          have b5:e.rd=[b0]:=by
           have h0:=g2;unfold kD at h0;have hw:dj ops.toList e.o I.slots=some true:=by unfold dj;rw[g1]
           rw[hw]at h0;simp only[eo,a1,bj.ofP]at h0;rw[eU]at h0;have h0:=congrArg (fun z=>(z.bind fun w=>w.2).map (·.rd)) h0;simp only[Option.bind_some,Option.map_some,Option.some.injEq]at h0;rw[<-h0];unfold qU;rw[c2];simp only[j5,eA]
          have j6:b0<I.heap.length:=by
           have:=(qw g3).1 b0 (by rw[b5];simp);exact this
          have b3:sj.heap[b0]?=I.heap[b0]?:=by
           have:=jo (b:=b0) es (fun q=>decide (q<0+i)) (fun q=>decide (q<0+j)) 0 D D t3 E E rfl (fun q c hc hw=>by
            simp only[Nat.zero_add];rcases Nat.lt_trichotomy q i with M|rfl|U
            ·simp[M,Nat.lt_trans M b4]
            ·rw[he]at hc;cases hc;rw[sw]at hw;simp[eN]at hw
            ·by_cases c4:q<j
             ·exact((c3 q c U c4 hc).1 b0 hw (by rw[b5];simp)).elim
             ·simp;omega)
           rw[N,k9]at this;simp only at this;rw[zP j6]at this;have l4:b0<sj.heap.length:=by
            by_cases hc:sj.heap.length<=b0
            ·exfalso;have h9:(pad L sj.heap)[b0]?=some .dead:=by
              have n8:b0<L:=by omega
              simp only[pad,jd];rw[List.getElem?_append_right hc,List.getElem?_replicate,if_pos (by omega)]
             rw[h9]at this;unfold eh at a1;rw[j5]at a1;simp only[ks,this]at a1
             (repeat' split at a1)<;>simp_all
            ·omega
           rw[zP l4]at this;exact this.symm
          have h0:=f2;rw[<-f4]at h0;unfold kD at h0;have hw:dj ops.toList b.o sj.slots=some true:=by unfold dj;rw[n3]
          have eb:evalOp P (evA sj.slots) sj.heap sj.heap.length b.o=nm P sj.heap t (evA sj.slots (.tmp m)) (evA sj.slots (.tmp k)):=by
           unfold evalOp;rw[e8];rfl
          rw[hw]at h0;simp only[eb,l0 m (by simp),l0 k (by simp)]at h0;split at h0
          ·rename_i v hv;unfold nm at hv;(repeat' split at hv)<;>cases hv
          ·rename_i v ws hv;rw[eU]at h0;have j7:=congrArg (fun z=>(z.bind fun w=>w.2).map (·.ws)) h0;simp only[Option.bind_some,Option.map_some,Option.some.injEq]at j7;obtain⟨X,hX,b8⟩:=BN (H':=(cu es (fun j=>C.getD j false) 0 D).heap) a1 j5 b3 hv;rw[b8 ?_]
           ·exact hr
           have l5:b0∈eN b.ws:=by rw[<-j7,hX];simp[eN]
           have l6:=lV (b:=b0) es (fun q=>decide (q<0+i)) 0 j D b t3 E hb (by simp;omega) l5 (fun q c hq hc hw=>by simp;omega);have e3:=jo (b:=b0) es (fun j=>C.getD j false) (fun q=>decide (q<0+i)||decide (q=0+j)) 0 D D t3 E E rfl (fun q c hc hw=>by
            simp only[Nat.zero_add];rcases Nat.lt_trichotomy q i with M|rfl|U
            ·rw[T q c M hc (.inl ⟨b0,hw,.inl (by rw[b5];simp)⟩)];simp[M]
            ·rw[he]at hc;cases hc;rw[sw]at hw;simp[eN]at hw
            ·by_cases c4:q=j
             ·subst c4;rw[m8];simp
             ·have hf:C.getD q false=false:=by
               rcases a9 q c U hc b0 hw (by rw[b5];simp)with h|h
               ·exact h
               ·exfalso;rcases Nat.lt_or_ge q j with h1|h1
                ·exact(c3 q c U h1 hc).1 b0 hw (by rw[b5];simp)
                ·have a0:b∈(es.take q).drop (i+1):=by
                  refine List.mem_of_getElem? (i:=j-(i+1)) ?_;rw[List.getElem?_drop,show i+1+(j-(i+1))=j by omega,List.getElem?_take,if_pos (by omega)];exact hb
                 unfold tp at h;split at h
                 ·simp only[Bool.and_eq_true]at h;have h2:=List.all_eq_true.1 h.2 b a0;simp only[Bool.and_eq_true]at h2;exact kY h2.1.1 l5 (by rw[b5];simp)
                 ·cases h
              rw[hf];simp;omega)
           rw[e3,l6,N,<-j7,hX];simp only[aQ];rw[fA (by have:=qD (H:=I.heap) (L:=L) (by omega);omega),if_pos rfl]
          ·rename_i f as hv;unfold nm at hv;(repeat' split at hv)<;>cases hv
          ·cases h0
        ·cases Y
       ·left;intro b hb;have:=jo (b:=b) es (fun j=>C.getD j false) (fun j=>decide (j<0+i)) 0 D D t3 E E rfl (fun j x hx hw=>by
         simp only[Nat.zero_add];rcases Nat.lt_trichotomy j i with M|rfl|U
         ·rw[T j x M hx (.inl ⟨b,hw,.inl hb⟩)];simp[M]
         ·rw[O];simp
         ·have hf:C.getD j false=false:=by
           rcases a9 j x U hx b hw hb with h|h
           ·exact h
           ·cases hv:C.getD j false with
            |false=>rfl
            |true=>exact(hex ⟨j,x,U,hx,hv,h⟩).elim
          rw[hf];simp;omega)
        rw[this,N];exact zP (j3 b hb)
      have e4:∀b∈eN e.ws,I.heap.length<=b->∀q,π1[b]?≠some (some q):=by
       intro b hb o5;refine h6 b (by omega) fun j x hx hl j8=>?_
       rcases Nat.lt_trichotomy j i with M|rfl|U
       ·have:=(ph es 0 i j x e a5 he (by omega) hx).2;simp only[eN,List.mem_map]at j8;obtain⟨p,hp,rfl⟩:=j8;have:=this p hp;omega
       ·rw[O]at hl;cases hl
       ·rw[J j x U hx (.inl ⟨b,hb,.inr j8⟩)]at hl;cases hl
      have j9:I.heap.length+e.n<=L:=by
       rcases Nat.eq_zero_or_pos e.n with h0|h0
       ·omega
       ·have h1:=(qw g3).2.2 (e.n-1) (by omega);have h2:=t3 e (List.mem_of_getElem? he) _ h1;omega
      have e5:eW e (cu es (fun j=>C.getD j false) 0 D)=cu es (fun j=>(C.setIfInBounds i true).getD j false) 0 D:=by
       have l7:(fun j=>(C.setIfInBounds i true).getD j false)=fun j=>C.getD j false||decide (j=0+i):=by
        funext j;rw[getD_set_true a3,Nat.zero_add]
       rw[l7];have n4:∀x∈eN e.ws,x<L:=t3 e (List.mem_of_getElem? he);have e1:(cu es (fun j=>C.getD j false||decide (j=0+i)) 0 D).slots=gX (cu es (fun j=>C.getD j false) 0 D).slots e.o.dst e.v:=by
        refine List.ext_getElem? fun t=>?_
        by_cases ht:t∈e.o.dst.toList
        ·exact oR es (fun j=>C.getD j false) 0 i D e he (by simpa using O) ht fun j b b4 hb hw=>by
          rw[Nat.zero_add];exact J j b b4 hb (.inr (.inl ⟨t,ht,.inr hw⟩))
        ·rw[tw ht];refine ji es _ _ 0 D D rfl rfl fun j b hb hw=>?_
         have:¬0+j=0+i:=by
          intro e0;obtain rfl:j=i:=by omega
          rw[he]at hb;cases hb;exact ht hw
         rw[decide_eq_false this,Bool.or_false]
       have e2:(cu es (fun j=>C.getD j false||decide (j=0+i)) 0 D).heap=aQ (cu es (fun j=>C.getD j false) 0 D).heap e.ws:=by
        refine List.ext_getElem? fun b=>?_
        by_cases hb:b∈eN e.ws
        ·exact lV es (fun j=>C.getD j false) 0 i D e t3 E he (by simpa using O) hb fun j x b4 hx hw=>by
          rw[Nat.zero_add];exact J j x b4 hx (.inl ⟨b,hb,.inr hw⟩)
        ·rw[od _ _ (by rw[c1.1];exact n4) hb];refine jo es _ _ 0 D D t3 E E rfl fun j x hx hw=>?_
         have:¬0+j=0+i:=by
          intro e0;obtain rfl:j=i:=by omega
          rw[he]at hx;cases hx;exact hb hw
         rw[decide_eq_false this,Bool.or_false]
       unfold eW;cases hF:cu es (fun j=>C.getD j false||decide (j=0+i)) 0 D;rw[hF]at e1 e2;simp only at e1 e2;rw[e1,e2]
      unfold wpOp;rw[ho];simp only;refine Cv m2 e9 g2 g3 (by rw[c1.1];exact j9) c9 j4 c6 e4 fun a' w' π' l8 l9 n5=>?_
      rw[e5]at l8 l9;refine ih (C.setIfInBounds i true) a' w' π' (by simpa using k6) ?_ ?_ l8 (c7.trans l9) ?_
      ·have o6:((List.range ops.size).countP fun j=>!C.getD j false)=((List.range ops.size).countP fun j=>!(C.setIfInBounds i true).getD j false)+1:=by
        have gen:∀(l:List Nat),l.Nodup->i∈l->(l.countP fun j=>!C.getD j false)=(l.countP fun j=>!(C.setIfInBounds i true).getD j false)+1:=by
         intro l;induction l with
         |nil=>intro _ h;cases h
         |cons x l n6=>
          intro k0 a0;rw[List.nodup_cons]at k0;rw[List.countP_cons,List.countP_cons,getD_set_true a3];by_cases hx:x=i
          ·subst hx;have b3:(l.countP fun j=>!C.getD j false)=l.countP fun j=>!(C.setIfInBounds x true).getD j false:=by
            refine List.countP_congr fun y hy=>?_
            rw[getD_set_true a3];have:¬y=x:=by rintro rfl;exact k0.1 hy
            simp[this]
           rw[b3,O];simp
          ·have:=n6 k0.2 (by
            rcases List.mem_cons.1 a0 with e0|e0
            ·exact(hx e0.symm).elim
            ·exact e0)
           rw[this];simp[hx];omega
        exact gen _ List.nodup_range (by simpa using b9)
       omega
      ·intro j oj hj hs e' m0 hb;rw[getD_set_true a3]at hs ⊢;rw[Bool.or_eq_true]at hs ⊢;left;rcases hs with hs|hs
       ·exact b1 j oj hj hs e' m0 hb
       ·obtain rfl:j=i:=by simpa using hs
        rw[j1]at hj;cases hj;exact c0 e' m0 hb
      ·intro b hb m1 q hq;have n7:b∉eN e.ws:=m1 i e he (by rw[getD_set_true a3];simp);rw[n5 b n7]at hq;refine h6 b hb (fun j x hx hl=>m1 j x hx ?_) q hq;rw[getD_set_true a3,hl];simp
   refine key ops.size (Array.replicate ops.size false) a {w with drawn:=w.drawn+1} π0 (by simp) ?_ ?_ ?_ ?_ ?_
   ·have:∀i,(Array.replicate ops.size false).getD i false=false:=fun i=>getD_none i
    simp only[this,Bool.not_false];simp
   ·intro j o _ hj;have:∀i,(Array.replicate ops.size false).getD i false=false:=fun i=>getD_none i
    rw[this]at hj;cases hj
   ·have:(fun j=>(Array.replicate ops.size false).getD j false)=fun _=>false:=by funext i;exact getD_none i
    rw[this,tR];exact m4
   ·have:(fun j=>(Array.replicate ops.size false).getD j false)=fun _=>false:=by funext i;exact getD_none i
    rw[this,tR];exact k5
   ·intro b hb _;exact b7 b hb
  ·cases h
 ·cases h
end Go.Eng

