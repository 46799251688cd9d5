import Derived.Test.YtglimpjlhfjgdaaGreatEng8Grds
set_option linter.all false
namespace Go.Eng
open Go Go.RowKit
variable[Dr]
section
variable{P:Program}{out:Nat->Prop}{B:Nat->Prop}
theorem sD(p:zl P){call:fG}(m:ko P call){ops:Array Oper}{Q:Exit->Act->World->Prop}:∀(l:List Oper) (k:Nat) (st st':St) (w:World) (π:List (Option PB)) (a:Act),(∀j,l[j]?=ops[k+j]?)->
  ij P call ops.toList l st=some st'->Rep out B w π st a->
  (∀a' w' π',Rep out B w' π' st' a'->Ext B w w' (aJ out π st.heap) (aJ out π' st'.heap) π π'->Q .normal a' w')->wpOps P ops Q (List.range' k l.length) a w
 |[],k,st,st',w,π,a,_,h,C,D=>by
  cases h;exact D a w π C (Ext.refl _ _ _)
 |o::l,k,st,st',w,π,a,N,h,C,D=>by
  simp only[ij]at h;split at h
  ·rename_i st1 S h1;have O:ops[k]?=some o:=by simpa using(N 0).symm
   simp only[List.length_cons,List.range'_succ,wpOps,O];refine zt p m C h1 (K:=wpOps P ops Q (List.range' (k+1) l.length)) (Q:=Q) fun a' w' π' E I=>?_
   refine sD p m l (k+1) st1 st' w' π' a' (fun j=>?_) h E fun J M π'' q z=>D J M π'' q (I.trans z)
   have:=N (j+1);simpa [Nat.add_assoc,Nat.add_comm 1 j]using this
  ·cases h
end
def eN(ws:List (Nat×Blk)):List Nat:=ws.map (·.1)
theorem jE:∀(ws:List (Nat×Blk)) (h:List Blk),(∀i∈eN ws,i<h.length)->(aN h ws).length=h.length
 |[],_,_=>rfl
 |(i,x)::ws,h,m=>by
  have q:i<h.length:=m i (by simp[eN]);have e:(upd h i x).length=h.length:=by rw[dr (by omega),if_neg (by omega)]
  rw[aN,jE ws _ (fun j p=>by rw[e];exact m j (by simp[eN]at p ⊢;exact .inr p)),e]
theorem ny{b:Nat}:∀(ws:List (Nat×Blk)) (h:List Blk),(∀i∈eN ws,i<h.length)->b∉eN ws->(aN h ws)[b]?=h[b]?
 |[],_,_,_=>rfl
 |(i,x)::ws,h,p,q=>by
  have C:i<h.length:=p i (by simp[eN]);have e:(upd h i x).length=h.length:=by rw[dr (by omega),if_neg (by omega)]
  rw[aN,ny ws _ (fun j z=>by rw[e];exact p j (by simp[eN]at z ⊢;exact .inr z)) (fun m=>q (by simp[eN]at m ⊢;exact .inr m)),gl (by omega),if_neg];rintro rfl;exact q (by simp[eN])
theorem qq{b:Nat}:∀(ws:List (Nat×Blk)) (h k:List Blk),h.length=k.length->(∀i∈eN ws,i<h.length)->(b∈eN ws\/h[b]?=k[b]?)->(aN h ws)[b]?=(aN k ws)[b]?
 |[],_,_,_,_,m=>by rcases m with m|m;(simp[eN]at m);exact m
 |(i,x)::ws,h,k,hlen,q,m=>by
  have C:i<h.length:=q i (by simp[eN]);have e1:(upd h i x).length=h.length:=by rw[dr (by omega),if_neg (by omega)]
  have e2:(upd k i x).length=k.length:=by rw[dr (by omega),if_neg (by omega)]
  refine qq ws _ _ (by omega) (fun j z=>by rw[e1];exact q j (by simp[eN]at z ⊢;exact .inr z)) ?_;by_cases p:b=i
  ·right;subst p;rw[gl (by omega),gl (by omega),if_pos rfl,if_pos rfl]
  ·rcases m with m|m
   ·left;simp only[eN,List.map_cons,List.mem_cons]at m ⊢;exact m.resolve_left p
   ·right;rw[gl (by omega),gl (by omega),if_neg p,if_neg p];exact m
theorem oJ(s:List AV)(d:Option Tmp)(v:AV):(gX s d v).length=s.length:=by cases d<;>simp[gX]
theorem sY{s:List AV}{d:Option Tmp}{v:AV}{t:Nat}(h:t∉d.toList):(gX s d v)[t]?=s[t]?:=by
 cases d with
 |none=>rfl
 |some d=>simp only[gX];rw[List.getElem?_set,if_neg];rintro rfl;exact h (by simp)
theorem wy{s r:List AV}{d:Option Tmp}{v:AV}{t:Nat}(m:s.length=r.length)(h:t∈d.toList\/s[t]?=r[t]?):(gX s d v)[t]?=(gX r d v)[t]?:=by
 cases d with
 |none=>rcases h with h|h;(simp at h);exact h
 |some d=>
  simp only[gX];rw[List.getElem?_set,List.getElem?_set,m];split
  ·rfl
  ·rename_i j;rcases h with h|h
   ·simp at h;exact(j h.symm).elim
   ·exact h
def fi(e:Ent)(st:St):St:=⟨gX st.slots e.o.dst e.v,aN st.heap e.ws⟩
def cx:List Ent->(Nat->Bool)->Nat->St->St
 |[],_,_,st=>st
 |e::es,s,k,st=>cx es s (k+1) (if s k then fi e st else st)
def Below(L:Nat)(es:List Ent):Prop:=∀e∈es,∀i∈eN e.ws,i<L
theorem nG{L:Nat}:∀(es:List Ent) (s:Nat->Bool) (k:Nat) (st:St),Below L es->st.heap.length=L->(cx es s k st).heap.length=L/\(cx es s k st).slots.length=st.slots.length
 |[],_,_,_,_,h=>⟨h,rfl⟩
 |e::es,s,k,st,j,h=>by
  simp only[cx];split
  ·have h1:=nG es s (k+1) (fi e st) (fun x m=>j x (by simp[m])) (by rw[fi];simp only;rw[jE _ _ (by rw[h];exact j e (by simp)),h]);exact⟨h1.1,by rw[h1.2];simp[fi,oJ]⟩
  ·exact nG es s (k+1) st (fun x m=>j x (by simp[m])) h
theorem jf{L b:Nat}:∀(es:List Ent) (s r:Nat->Bool) (k:Nat) (st q:St),Below L es->st.heap.length=L->q.heap.length=L->st.heap[b]?=q.heap[b]?->
  (∀(j:Nat) (e:Ent),es[j]?=some e->b∈eN e.ws->s (k+j)=r (k+j))->(cx es s k st).heap[b]?=(cx es r k q).heap[b]?
 |[],_,_,_,_,_,_,_,_,h,_=>h
 |e::es,s,r,k,st,q,E,h1,h2,h,hs=>by
  have m:=E e (by simp);have z:Below L es:=fun x I=>E x (by simp[I])
  have C:∀(j:Nat) (D:Ent),es[j]?=some D->b∈eN D.ws->s (k+1+j)=r (k+1+j):=fun j D J M=>by
   have:=hs (j+1) D (by simpa using J) M;simpa [Nat.add_assoc,Nat.add_comm 1 j]using this
  have l1:(fi e st).heap.length=L:=by simp only[fi];rw[jE _ _ (by rw[h1];exact m),h1]
  have l2:(fi e q).heap.length=L:=by simp only[fi];rw[jE _ _ (by rw[h2];exact m),h2]
  simp only[cx];by_cases p:b∈eN e.ws
  ·have:=hs 0 e rfl p;simp only[Nat.add_zero]at this;rw[this];split
   ·exact jf es s r (k+1) _ _ z l1 l2 (qq _ _ _ (by omega) (by rw[h1];exact m) (.inl p)) C
   ·exact jf es s r (k+1) _ _ z h1 h2 h C
  ·have N:(fi e st).heap[b]?=st.heap[b]?:=ny _ _ (by rw[h1];exact m) p;have O:(fi e q).heap[b]?=q.heap[b]?:=ny _ _ (by rw[h2];exact m) p;split<;>split<;>refine jf es s r (k+1) _ _ z (by assumption) (by assumption) ?_ C<;>simp only[N,O,h]
theorem jd{t:Nat}:∀(es:List Ent) (s r:Nat->Bool) (k:Nat) (st p:St),st.slots.length=p.slots.length->st.slots[t]?=p.slots[t]?->
  (∀(j:Nat) (e:Ent),es[j]?=some e->t∈e.o.dst.toList->s (k+j)=r (k+j))->(cx es s k st).slots[t]?=(cx es r k p).slots[t]?
 |[],_,_,_,_,_,_,h,_=>h
 |e::es,s,r,k,st,p,C,h,hs=>by
  have q:∀(j:Nat) (z:Ent),es[j]?=some z->t∈z.o.dst.toList->s (k+1+j)=r (k+1+j):=fun j z D E=>by
   have:=hs (j+1) z (by simpa using D) E;simpa [Nat.add_assoc,Nat.add_comm 1 j]using this
  have l1:(fi e st).slots.length=st.slots.length:=oJ _ _ _;have l2:(fi e p).slots.length=p.slots.length:=oJ _ _ _;simp only[cx];by_cases m:t∈e.o.dst.toList
  ·have:=hs 0 e rfl m;simp only[Nat.add_zero]at this;rw[this];split
   ·exact jd es s r (k+1) _ _ (by omega) (wy C (.inl m)) q
   ·exact jd es s r (k+1) _ _ C h q
  ·have I:(fi e st).slots[t]?=st.slots[t]?:=sY m;have J:(fi e p).slots[t]?=p.slots[t]?:=sY m;split<;>split<;>refine jd es s r (k+1) _ _ (by omega) ?_ q<;>simp only[I,J,h]
theorem lO{L b:Nat}:∀(es:List Ent) (s:Nat->Bool) (k i:Nat) (st:St) (e:Ent),Below L es->st.heap.length=L->es[i]?=some e->s (k+i)=false->b∈eN e.ws->
  (∀(j:Nat) (p:Ent),i<j->es[j]?=some p->b∈eN p.ws->s (k+j)=false)->
  (cx es (fun j=>s j||decide (j=k+i)) k st).heap[b]?=(aN (cx es s k st).heap e.ws)[b]?
 |[],_,_,_,_,_,_,_,h,_,_,_=>by simp at h
 |e0::es,s,k,0,st,e,I,D,h,hs,E,m=>by
  simp only[List.getElem?_cons_zero,Option.some.injEq]at h;subst h;have z:=I e0 (by simp);have C:Below L es:=fun x M=>I x (by simp[M])
  simp only[Nat.add_zero]at hs;simp only[cx,Nat.add_zero,hs,Bool.false_eq_true,if_false,decide_true,Bool.false_or,if_true];have hlen:=(nG es s (k+1) st C D).1;have l1:(fi e0 st).heap.length=L:=by simp only[fi];rw[jE _ _ (by rw[D];exact z),D]
  have N:∀(r:Nat->Bool) (q:St),q.heap.length=L->(∀(j:Nat) (p:Ent),es[j]?=some p->b∈eN p.ws->r (k+1+j)=false)->(cx es r (k+1) q).heap[b]?=q.heap[b]?:=by
   intro r q J T;have:=jf (b:=b) es r (fun _=>false) (k+1) q q C J J rfl (fun j p h1 h2=>T j p h1 h2);rw[this];clear this;have O:∀(es:List Ent) (k:Nat) (q:St),cx es (fun _=>false) k q=q:=by
    intro es;induction es with
    |nil=>intro _ _;rfl
    |cons x es U=>intro k q;simp[cx,U]
   rw[O]
  have S:∀(j:Nat) (p:Ent),es[j]?=some p->b∈eN p.ws->s (k+1+j)=false:=fun j p h1 h2=>by
   have:=m (j+1) p (by omega) (by simpa using h1) h2;simpa [Nat.add_assoc,Nat.add_comm 1 j]using this
  rw[N _ _ l1 (fun j p h1 h2=>by simp[S j p h1 h2];omega)];refine qq _ _ _ (by omega) (by rw[D];exact z) (.inl E)
 |e0::es,s,k,i+1,st,e,I,D,h,hs,E,m=>by
  have z:=I e0 (by simp);have C:Below L es:=fun x M=>I x (by simp[M])
  simp only[cx];have hk:decide (k=k+(i+1))=false:=by simp
  simp only[hk,Bool.or_false];have l1:(if s k then fi e0 st else st).heap.length=L:=by
   split
   ·simp only[fi];rw[jE _ _ (by rw[D];exact z),D]
   ·exact D
  have:=lO es s (k+1) i (if s k then fi e0 st else st) e C l1 (by simpa using h) (by rw[<-hs];congr 1;omega) E (fun j p Y h1 h2=>by
   have:=m (j+1) p (by omega) (by simpa using h1) h2;rw[<-this];congr 1;omega)
  rw[<-this];simp only[show k+1+i=k+(i+1)by omega]
theorem sN:∀(es:List Ent) (k:Nat) (j:St),cx es (fun _=>false) k j=j:=by
 intro es;induction es with
 |nil=>intro _ _;rfl
 |cons x es m=>intro k j;simp[cx,m]
theorem nf:∀(es:List Ent) (s:Nat->Bool) (k:Nat) (st:St),(cx es s k st).slots.length=st.slots.length
 |[],_,_,_=>rfl
 |e::es,s,k,st=>by
  simp only[cx];split
  ·rw[nf es s (k+1) (fi e st)];exact oJ _ _ _
  ·exact nf es s (k+1) st
theorem nL{t:Nat}:∀(es:List Ent) (s:Nat->Bool) (k i:Nat) (st:St) (e:Ent),es[i]?=some e->s (k+i)=false->t∈e.o.dst.toList->
  (∀(j:Nat) (p:Ent),i<j->es[j]?=some p->t∈p.o.dst.toList->s (k+j)=false)->
  (cx es (fun j=>s j||decide (j=k+i)) k st).slots[t]?=(gX (cx es s k st).slots e.o.dst e.v)[t]?
 |[],_,_,_,_,_,h,_,_,_=>by simp at h
 |e0::es,s,k,0,st,e,h,hs,q,m=>by
  simp only[List.getElem?_cons_zero,Option.some.injEq]at h;subst h;simp only[Nat.add_zero]at hs;simp only[cx,Nat.add_zero,hs,Bool.false_eq_true,if_false,decide_true,Bool.false_or,if_true];have C:∀(r:Nat->Bool) (z:St),(∀(j:Nat) (p:Ent),es[j]?=some p->t∈p.o.dst.toList->r (k+1+j)=false)->(cx es r (k+1) z).slots[t]?=z.slots[t]?:=by
   intro r z E;rw[jd (t:=t) es r (fun _=>false) (k+1) z z rfl rfl (fun j p h1 h2=>E j p h1 h2),sN]
  have D:∀(j:Nat) (p:Ent),es[j]?=some p->t∈p.o.dst.toList->s (k+1+j)=false:=fun j p h1 h2=>by
   have:=m (j+1) p (by omega) (by simpa using h1) h2;simpa [Nat.add_assoc,Nat.add_comm 1 j]using this
  rw[C _ _ (fun j p h1 h2=>by simp[D j p h1 h2];omega)];exact wy (by rw[nf]) (.inl q)
 |e0::es,s,k,i+1,st,e,h,hs,q,m=>by
  simp only[cx];have hk:decide (k=k+(i+1))=false:=by simp
  simp only[hk,Bool.or_false];have:=nL es s (k+1) i (if s k then fi e0 st else st) e (by simpa using h) (by rw[<-hs];congr 1;omega) q (fun j p I h1 h2=>by
   have:=m (j+1) p (by omega) (by simpa using h1) h2;rw[<-this];congr 1;omega)
  rw[<-this];simp only[show k+1+i=k+(i+1)by omega]
end Go.Eng


namespace Go.Eng
open Go Go.RowKit
variable[Dr]
theorem zW{H:List Blk}{nid n by_:Nat}{s x:AV}{r:bk}(h:jQ H nid n by_ s x=some r):
  (∃v ws y,r=.eff v ws/\(nid,y)∈ws)\/∀j,jQ H j n by_ s x=some r:=by
 unfold jQ at h;split at h
 ·cases h
 ·rename_i new m q;split at h
  ·split at h
   ·cases h;exact .inl ⟨_,_,_,rfl,by simp;rfl⟩
   ·cases h
  ·split at h
   ·rename_i p;cases h;refine .inr fun j=>?_
    simp only[jQ,q,p]
   ·cases h
  ·split at h
   ·split at h
    ·cases h;exact .inl ⟨_,_,_,rfl,by simp;exact .inr rfl⟩
    ·cases h
   ·split at h
    ·cases h;exact .inl ⟨_,_,_,rfl,by simp;exact .inr rfl⟩
    ·cases h
   ·cases h
  ·split at h
   ·rename_i hH;split at h
    ·rename_i p;split at h
     ·rename_i z;cases h;refine .inr fun j=>?_
      simp only[jQ,q,hH,p,z]
     ·cases h;exact .inl ⟨_,_,_,rfl,by simp;rfl⟩
    ·cases h
   ·cases h
  ·cases h
theorem yI{P:Program}{H:List Blk}{nid:Nat}{b:Builtin}{at_:Array TypeId}{ty:TypeId}{args:List AV}{r:bk}(h:mU P H nid b at_ ty args=some r):
  (∃v ws y,r=.eff v ws/\(nid,y)∈ws)\/∀j,mU P H j b at_ ty args=some r:=by
 cases b
 case append=>
  match args with
  |[s,x]=>
   simp only[mU]at h ⊢;cases h1:at_[0]? with
   |none=>simp[h1]at h
   |some t=>
    cases h2:at_[1]? with
    |none=>simp[h1,h2]at h
    |some m=>
     simp only[h1,h2]at h ⊢;split at h
     ·split at h
      ·split at h
       ·rename_i n z by_ _ _ _ _ _;rcases zW h with hh|hh
        ·exact .inl hh
        ·refine .inr fun j=>?_
         exact hh j
       ·cases h
      ·cases h
     ·split at h
      ·unfold tD at h;split at h
       ·split at h
        ·cases h;exact .inl ⟨_,_,_,rfl,by simp;rfl⟩
        ·cases h
       ·cases h
      ·cases h
     ·cases h
  |[]=>exact .inr fun _=>h
  |[_]=>exact .inr fun _=>h
  |_::_::_::_=>exact .inr fun _=>h
 all_goals (refine .inr fun _=>?_;rcases args with _|⟨x,_|⟨y,_|⟨z,l⟩⟩⟩<;>exact h)
theorem xw{P:Program}{ρ:Operand->AV}{H:List Blk}{nid:Nat}{o:Oper}{r:bk}(h:evalOp P ρ H nid o=some r):
  (∃v ws x,r=.eff v ws/\(nid,x)∈ws)\/∀j,evalOp P ρ H j o=some r:=by
 unfold evalOp at h;unfold evalOp;cases m:o.op<;>simp only[m,sf,yg,kr,lC,vf,mO]at h ⊢
 case alloc t=>
  split at h
  ·split at h
   ·cases h;exact .inl ⟨_,_,_,rfl,by simp;rfl⟩
   ·cases h
  ·cases h
 case box t x=>
  split at h
  ·cases h;exact .inl ⟨_,_,_,rfl,by simp;rfl⟩
  ·cases h
 case buildSlice t n p=>
  split at h
  ·split at h
   ·split at h
    ·split at h
     ·cases h;exact .inl ⟨_,_,_,rfl,by simp;rfl⟩
     ·cases h
    ·cases h
   ·cases h
  ·cases h
 case makeSlice t l c=>
  split at h
  ·split at h
   ·split at h
    ·cases h;exact .inl ⟨_,_,_,rfl,by simp;rfl⟩
    ·cases h
   ·cases h
  ·cases h
 case makeMap t r=>
  unfold pI at h;split at h
  ·cases h;exact .inl ⟨_,_,_,rfl,by simp;rfl⟩
  ·split at h
   ·cases h;exact .inl ⟨_,_,_,rfl,by simp;rfl⟩
   ·cases h
 case range t x=>
  unfold nv at h;split at h
  ·cases h;exact .inl ⟨_,_,_,rfl,by simp;rfl⟩
  ·cases h
 case makeFunc fn q cs=>cases fn<;>first|exact .inr fun _=>h|exact .inr fun _=>by simpa using h
 case slice t x z C mx=>cases mx<;>first|exact .inr fun _=>h|exact .inr fun _=>by simpa using h
 case call c=>
  cases hc:c.callee<;>simp only[hc]at h ⊢
  case value f=>exact .inr fun _=>h
  case builtin b=>exact yI h
  case invoke=>cases h
 all_goals exact .inr fun _=>h
def pad(L:Nat)(H:List Blk):List Blk:=H++iT (L-H.length)
theorem qk{L:Nat}{H:List Blk}(h:H.length<=L):(pad L H).length=L:=by simp[pad,iT];omega
theorem zb{L b:Nat}{H:List Blk}(h:b<H.length):(pad L H)[b]?=H[b]?:=by simp only[pad];rw[List.getElem?_append_left h]
theorem CF{H:List Blk}:pad H.length H=H:=by simp[pad,iT]
theorem B6{L n:Nat}{H:List Blk}(h:H.length+n<=L):pad L (H++iT n)=pad L H:=by
 simp only[pad,iT,List.length_append,List.length_replicate,List.append_assoc,List.replicate_append_replicate];rw[show n+(L-(H.length+n))=L-H.length by omega]
theorem El{L i:Nat}{H:List Blk}{x:Blk}(z:i<=H.length)(C:(upd H i x).length<=L):pad L (upd H i x)=upd (pad L H) i x:=by
 have q:=dr (x:=x) z;by_cases he:i=H.length
 ·subst he;rw[if_pos rfl]at q;have j:H.length<(pad L H).length:=by rw[qk (by omega)];omega
  unfold upd;rw[if_neg (by omega),if_pos j];simp only[pad,iT,List.length_append,List.length_singleton];rw[List.set_append_right _ _ (Nat.le_refl _),Nat.sub_self];obtain⟨m,hm⟩:∃m,L-H.length=m+1:=⟨L-H.length-1,by omega⟩;rw[hm,show L-(H.length+1)=m by omega,List.replicate_succ,List.set_cons_zero];simp
 ·have j:i<H.length:=by omega
  rw[if_neg he]at q;have p:i<(pad L H).length:=by rw[qk (by omega)];omega
  unfold upd;rw[if_pos j,if_pos p];simp only[pad,List.length_set];rw[List.set_append_left _ _ j]
theorem s8{L:Nat}:∀(ws:List (Nat×Blk)) (H:List Blk),(∀i∈eN ws,i<=H.length)->(aN H ws).length<=L->
  pad L (aN H ws)=aN (pad L H) ws/\H.length<=(aN H ws).length/\∀i∈eN ws,i<(aN H ws).length
 |[],H,_,_=>⟨rfl,Nat.le_refl _,by simp[eN]⟩
 |(i,x)::ws,H,z,C=>by
  have p:i<=H.length:=z i (by simp[eN]);have D:=dr (x:=x) p;have q:H.length<=(upd H i x).length:=by rw[D];split<;>omega
  have hgt:i<(upd H i x).length:=by rw[D];split<;>omega
  obtain⟨h1,h2,E⟩:=s8 ws (upd H i x) (fun j m=>Nat.le_trans (z j (by simp[eN]at m ⊢;exact .inr m)) q) C;refine⟨?_,Nat.le_trans q h2,?_⟩
  ·rw[aN,h1,aN,El p (Nat.le_trans h2 C)]
  ·intro j m;simp only[eN,List.map_cons,List.mem_cons]at m;rcases m with rfl|m
   ·exact Nat.lt_of_lt_of_le hgt h2
   ·exact E j m
theorem px{len:Nat}{e:Ent}(h:nq len e=true):(∀b∈e.rd,b<len)/\(∀i∈eN e.ws,i<=len+e.n/\(0<e.n->i<len+e.n))/\(∀j,j<e.n->len+j∈eN e.ws):=by
 simp only[nq,Bool.and_eq_true,List.all_eq_true,decide_eq_true_eq]at h;obtain⟨h1,h2⟩:=h;refine⟨h1,?_,?_⟩
 ·intro i q;simp only[eN,List.mem_map]at q;obtain⟨p,hp,rfl⟩:=q;cases m:e.n with
  |zero=>simp only[m,List.all_eq_true,decide_eq_true_eq]at h2;exact⟨by have:=h2 p hp;omega,by omega⟩
  |succ n=>simp only[m,Bool.and_eq_true,List.all_eq_true,decide_eq_true_eq]at h2;have:=h2.1 p hp;omega
 ·intro j z;cases m:e.n with
  |zero=>omega
  |succ n=>
   simp only[m,Bool.and_eq_true,List.all_eq_true,decide_eq_true_eq]at h2;have:=h2.2 j (by simp;omega);simpa [eN]using this
theorem B5{P:Program}{call:fG}{ops:List Oper}{o:Oper}{st st1:St}{e:Ent}{L:Nat}(h:kG P call ops o st=some (st1,some e))(m:nq st.heap.length e=true)(p:st1.heap.length<=L):
  e.o=o/\e.nid=st.heap.length/\st.heap.length<=st1.heap.length/\(∀i∈eN e.ws,i<st1.heap.length)/\fi e ⟨st.slots,pad L st.heap⟩=⟨st1.slots,pad L st1.heap⟩:=by
 obtain⟨_,j,_⟩:=px m;unfold kG at h;split at h
 ·split at h
  ·rename_i v C;rw[fg]at h;cases h;exact⟨rfl,rfl,Nat.le_refl _,by simp[eN],rfl⟩
  ·rename_i v ws C;rw[fg]at h;cases h;obtain⟨h1,h2,q⟩:=s8 (L:=L) ws st.heap (fun i z=>by have:=(j i z).1;simpa using this) p;exact⟨rfl,rfl,h2,q,by simp only[fi,h1]⟩
  ·split at h
   ·rename_i f args _ v ws rd n hc;rw[fg]at h;cases h;simp only at j p;obtain⟨h1,h2,q⟩:=s8 (L:=L) ws (st.heap++iT n) (fun i z=>by have:=(j i z).1;simp[iT];omega) p;have D:(st.heap++iT n).length=st.heap.length+n:=by simp[iT]
    have hle:st.heap.length+n<=L:=by omega
    refine⟨rfl,rfl,by simp only;omega,q,?_⟩;simp only[fi];rw[h1,B6 hle]
   ·rw[fg]at h;cases h
   ·cases h
  ·cases h
 ·rw[fg]at h;cases h;exact⟨rfl,rfl,Nat.le_refl _,by simp[eN],rfl⟩
 ·cases h
theorem mA:∀(es:List Ent) (k j:Nat) (st:St),cx es (fun _=>true) k st=cx es (fun _=>true) j st
 |[],_,_,_=>rfl
 |e::es,k,j,st=>by simp only[cx,if_true];exact mA es _ _ _
theorem vI{P:Program}{call:fG}{ops:List Oper}{L:Nat}:∀(rest:List Oper) (st st':St) (es:List Ent),gk P call ops rest st=some (st',es)->st'.heap.length<=L->
  st.heap.length<=st'.heap.length/\es.length=rest.length/\Below st'.heap.length es/\cx es (fun _=>true) 0 ⟨st.slots,pad L st.heap⟩=⟨st'.slots,pad L st'.heap⟩/\
  ∀(j:Nat) (e:Ent),es[j]?=some e->∃o m st1,rest[j]?=some o/\kG P call ops o m=some (st1,some e)/\nq m.heap.length e=true/\e.o=o/\e.nid=m.heap.length/\st.heap.length<=m.heap.length/\
   m.heap.length<=L/\cx (es.take j) (fun _=>true) 0 ⟨st.slots,pad L st.heap⟩=⟨m.slots,pad L m.heap⟩
 |[],st,st',es,h,E=>by
  cases h;exact⟨Nat.le_refl _,rfl,by simp[Below],rfl,by simp⟩
 |o::rest,st,st',es,h,E=>by
  simp only[gk]at h;split at h
  ·rename_i st1 e h1;split at h
   ·rename_i st2 p q h2;cases h;obtain⟨i1,i2,i3,i4,i5⟩:=vI rest st1 st' p h2 E;obtain⟨M,N,S,O,I⟩:=B5 (L:=L) h1 q (by omega);refine⟨by omega,by simp[i2],?_,?_,?_⟩
    ·intro x z i J;rcases List.mem_cons.1 z with rfl|z
     ·exact Nat.lt_of_lt_of_le (O i J) i1
     ·exact i3 x z i J
    ·simp only[cx,if_true];rw[I,mA p (0+1) 0,i4]
    ·intro j x C;cases j with
     |zero=>
      simp at C;subst C;exact⟨o,st,st1,rfl,h1,q,M,N,Nat.le_refl _,by omega,rfl⟩
     |succ j=>
      obtain⟨o',m,D,g1,g2,g3,g4,g5,g6,g7,g8⟩:=i5 j x (by simpa using C);refine⟨o',m,D,by simpa using g1,g2,g3,g4,g5,by omega,g7,?_⟩;simp only[List.take_succ_cons,cx,if_true];rw[I,mA _ (0+1) 0,g8]
   ·cases h
  ·cases h
theorem tc:∀(es:List Ent) (i k:Nat) (st:St),cx es (fun j=>decide (j<k+i)) k st=cx (es.take i) (fun _=>true) k st
 |[],i,k,st=>by simp[cx]
 |e::es,0,k,st=>by
  have:∀(es:List Ent) (m:Nat) (st:St),k<=m->cx es (fun j=>decide (j<k+0)) m st=st:=by
   intro es;induction es with
   |nil=>intro _ _ _;rfl
   |cons x es p=>intro m st hm;simp only[cx];rw[if_neg (by simp;omega)];exact p (m+1) st (by omega)
  rw[this _ k st (Nat.le_refl _)];rfl
 |e::es,i+1,k,st=>by
  simp only[cx,List.take_succ_cons,if_true];rw[if_pos (by simp)];have:=tc es i (k+1) (fi e st);rw[<-this];congr 1;funext j;congr 1;simp only[eq_iff_iff];omega
end Go.Eng


namespace Go.Eng
open Go Go.RowKit
variable[Dr]
theorem pJ(acc:List Nat)(i:Nat):∀(l:List Edge) (s:Nat),(l.foldl (fun s e=>if Region.binds .any e then s ||| (2^e.on ||| acc.getD e.on 0)else s) s).testBit i=true->
  s.testBit i=true\/∃e∈l,Region.binds .any e=true/\(e.on=i\/(acc.getD e.on 0).testBit i=true)
 |[],_,h=>.inl h
 |e::l,s,h=>by
  simp only[List.foldl_cons]at h;rcases pJ acc i l _ h with h|⟨m,h1,h2⟩
  ·split at h
   ·rename_i j;simp only[Nat.testBit_or,Bool.or_eq_true]at h;rcases h with h|h|h
    ·exact .inl h
    ·refine .inr ⟨e,by simp,j,.inl ?_⟩;rw[Nat.testBit_two_pow]at h;simpa using h
    ·exact .inr ⟨e,by simp,j,.inr h⟩
   ·exact .inl h
  ·exact .inr ⟨m,by simp[h1],h2⟩
theorem rF:∀(l:List Oper) (acc:List Nat) (j:Nat),j<acc.length->(sU acc l)[j]?=acc[j]?
 |[],_,_,_=>rfl
 |o::l,acc,j,h=>by
  rw[sU,rF l _ j (by simp;omega),List.getElem?_append_left h]
theorem zZ:∀(l:List Oper) (acc:List Nat) (j:Nat) (o:Oper),l[j]?=some o->∃m,(sU acc l)[acc.length+j]?=some (wh m o)/\m.length=acc.length+j/\∀k,k<m.length->(sU acc l)[k]?=m[k]?
 |[],_,_,_,h=>by simp at h
 |o::l,acc,0,o',h=>by
  simp at h;subst h;refine⟨acc,?_,rfl,fun k hk=>rF (o::l) acc k hk⟩;rw[sU,rF l _ _ (by simp)];simp
 |o::l,acc,j+1,o',h=>by
  obtain⟨m,h1,h2,p⟩:=zZ l (acc++[wh acc o]) j o' (by simpa using h);refine⟨m,?_,by simp at h2;omega,fun k hk=>by rw[sU];exact p k hk⟩;rw[sU];simpa [Nat.add_assoc,Nat.add_comm 1 j]using h1
theorem qX:∀(l:List Oper) (k j:Nat) (o:Oper),qz l k=true->l[j]?=some o->∀e∈o.after.toList,Region.binds .any e=true->e.on<k+j
 |[],_,_,_,_,h=>by simp at h
 |o::l,k,0,o',hk,h=>by
  simp at h;subst h;simp only[qz,Bool.and_eq_true,List.all_eq_true]at hk;intro e he m;have:=hk.1 e he;simpa [m]using this
 |o::l,k,j+1,o',hk,h=>by
  simp only[qz,Bool.and_eq_true]at hk;intro e he m;have:=qX l (k+1) j o' hk.2 (by simpa using h) e he m;omega
theorem qW{ops:List Oper}(E:qz ops 0=true){s:Nat->Bool}(I:∀(j:Nat) (o:Oper),ops[j]?=some o->s j=true->∀e∈o.after.toList,Region.binds .any e=true->s e.on=true):
  ∀(j:Nat) (o:Oper),ops[j]?=some o->(∀e∈o.after.toList,Region.binds .any e=true->s e.on=true)->∀i,((sU [] ops).getD j 0).testBit i=true->s i=true:=by
 intro j;induction j using Nat.strongRecOn with
 |_ j O=>
  intro o J he i M;obtain⟨q,h1,h2,S⟩:=zZ ops [] j o J;simp only[List.length_nil,Nat.zero_add]at h1 h2;rw[List.getD_eq_getElem?_getD,h1]at M;simp only[Option.getD_some,wh]at M;rcases pJ q i _ _ M with h|⟨e,z,C,m⟩
  ·simp at h
  ·have D:=he e z C;rcases m with rfl|m
   ·exact D
   ·have N:e.on<j:=by have:=qX ops 0 j o E J e z C;omega
    cases p:ops[e.on]? with
    |none=>
     have:=List.getElem?_eq_none_iff.1 p;have:=(List.getElem?_eq_some_iff.1 J).1;omega
    |some o'=>
     refine O e.on N o' p (I e.on o' p D) i ?_;rw[List.getD_eq_getElem?_getD,S e.on (by omega),<-List.getD_eq_getElem?_getD];exact m
theorem tV{ops:List Oper}{b:Ent}{m:Nat}:∀(l:List Ent) (k i:Nat) (a:Ent),ry ops b m l k=true->l[i]?=some a->(m.testBit (k+i)=true\/zm ops a b=true\/sG ops a b (l.drop (i+1))=true)/\∀p∈a.ws,p.1<b.nid
 |[],_,_,_,_,h=>by simp at h
 |x::l,k,0,a,j,h=>by
  simp at h;subst h;simp only[ry,Bool.and_eq_true,Bool.or_eq_true,List.all_eq_true,decide_eq_true_eq]at j;exact⟨by simpa [or_assoc]using j.1.1,j.1.2⟩
 |x::l,k,i+1,a,j,h=>by
  simp only[ry,Bool.and_eq_true]at j;have:=tV l (k+1) i a j.2 (by simpa using h);rwa[show k+1+i=k+(i+1)by omega]at this
theorem oP{ops:List Oper}{m:List Nat}{all:List Ent}:∀(l:List Ent) (k j i:Nat) (a b:Ent),oE ops m all l k=true->l[j]?=some b->i<k+j->all[i]?=some a->
  ((m.getD (k+j) 0).testBit i=true\/zm ops a b=true\/sG ops a b ((all.take (k+j)).drop (i+1))=true)/\∀p∈a.ws,p.1<b.nid
 |[],_,_,_,_,_,_,h,_,_=>by simp at h
 |x::l,k,0,i,a,b,q,h,C,z=>by
  simp at h;subst h;simp only[oE,Bool.and_eq_true]at q;have:=tV _ 0 i a q.1 (by rw[List.getElem?_take,if_pos (by omega)];exact z);simpa using this
 |x::l,k,j+1,i,a,b,q,h,C,z=>by
  simp only[oE,Bool.and_eq_true]at q;have:=oP l (k+1) j i a b q.2 (by simpa using h) (by omega) z;rwa[show k+1+j=k+(j+1)by omega]at this
theorem kM{l k:List Nat}(h:tf l k=true){x:Nat}(j:x∈l):x∉k:=by
 simp only[tf,List.all_eq_true,Bool.not_eq_true',List.contains_eq_mem]at h;have:=h x j;simpa using this
theorem wE{l:List Operand}{t:Tmp}(h:Operand.tmp t∈l):t∈Bh l:=by
 simp only[Bh,List.mem_filterMap];exact⟨_,h,rfl⟩
theorem x8{s r:List AV}{x:Operand}(h:∀t,x=.tmp t->s[t]?=r[t]?):evA s x=evA r x:=by
 cases x with
 |tmp t=>simp only[evA,sm,List.getD_eq_getElem?_getD,h t rfl]
 |_=>rfl
theorem xF{ops:List Oper}{o:Oper}{s r:List AV}(h:∀t∈eG ops o,s[t]?=r[t]?):dk ops o s=dk ops o r:=by
 unfold dk;cases m:o.guard with
 |none=>rfl
 |some g=>
  obtain⟨j,want⟩:=g;simp only;cases p:ops[j]? with
  |none=>rfl
  |some oj=>
   simp only;cases q:oj.dst with
   |none=>rfl
   |some d=>
    simp only;have:s[d]?=r[d]?:=h d (by simp[eG,m,p,q]);simp only[sm,List.getD_eq_getElem?_getD,this]
theorem Be{P:Program}(T:zl P){call:fG}(U:ko P call){ops:Array Oper}{o:Oper}{p st1 C:St}{e:Ent}(h:kG P call ops.toList o p=some (st1,some e))(b0:nq p.heap.length e=true)
  (hle:p.heap.length+e.n<=C.heap.length) (hs:∀t∈eG ops.toList o,C.slots[t]?=p.slots[t]?) (hh:(∀b∈e.rd,C.heap[b]?=p.heap[b]?)\/((∃t m k,o.op=.lookup t m k false)/\∀r,evalOp P (evA p.slots) p.heap p.heap.length o=some r->evalOp P (evA p.slots) C.heap p.heap.length o=some r))
  {out:Nat->Prop} {B:Nat->Prop} {w:World} {π:List (Option PB)} {a:Act} (z:Rep out B w π C a) (D:∀b∈eN e.ws,p.heap.length<=b->∀q,π[b]?≠some (some q))
  {K:Act->World->Prop} {Q:Exit->Act->World->Prop}
  (Z:∀a' w' π',Rep out B w' π' (fi e C) a'->Ext B w w' (aJ out π C.heap) (aJ out π' (fi e C).heap) π π'->(∀j,j∉eN e.ws->π'[j]?=π[j]?)->K a' w'):
  if Region.wanted o (yielded ops a.tmps)then o.wp P a w K Q\/(o.asks P a w/\LetsOut Q)else K (a.put o.dst undef) w:=by
 obtain⟨b1,a1,S⟩:=px b0;have E:∀{ws:List (Nat×Blk)} {π':List (Option PB)},(∀j,(∀b,(j,b)∉ws)->π'[j]?=π[j]?)->∀j,j∉eN ws->π'[j]?=π[j]?:=by
  intro ws π' hk j hj;refine hk j fun b O=>hj ?_
  simp only[eN,List.mem_map];exact⟨_,O,rfl⟩
 have a6:dk ops.toList o C.slots=dk ops.toList o p.slots:=xF hs;have a7:∀x∈o.op.operands.toList,evA p.slots x=evA C.slots x:=by
  intro x hx;refine(x8 fun t ht=>?_).symm;subst ht;exact hs t (by simp only[eG,List.mem_append];exact .inl (wE hx))
 unfold kG at h;split at h
 ·rename_i hw;rw[<-a6]at hw;rw[if_pos (mE z.slots hw)];refine .inl ?_;unfold Oper.wp;have J:∀r,evalOp P (evA p.slots) p.heap p.heap.length o=some r->((∀b∈qt p.heap (evA p.slots) o,C.heap[b]?=p.heap[b]?)\/((∃t m k,o.op=.lookup t m k false)/\∀r,evalOp P (evA p.slots) p.heap p.heap.length o=some r->evalOp P (evA p.slots) C.heap p.heap.length o=some r))->evalOp P (evA C.slots) C.heap p.heap.length o=some r:=by
   intro r hr O;rw[<-xa a7];rcases O with O|⟨_,O⟩
   ·rw[<-hr];exact(Ah fun b hm=>(O b hm).symm).symm
   ·exact O r hr
  split at h
  ·rename_i v N;rw[fg]at h;cases h;have I:=J _ N hh;rcases xw I with⟨_,_,_,e1,_⟩|M
   ·cases e1
   obtain⟨nx,u,h1,h2,Y⟩:=ks T z.inv (Nat.le_refl _) (rY z.inv) (mz z.slots) (M C.heap.length);rw[h1];rcases h2 with rfl|⟨rfl,rfl⟩
   ·exact Z _ _ π (Rep.ext z.defers z.slots (Ext.refl _ _ _) z.inv Y) (Ext.refl _ _ _) fun _ _=>rfl
   ·exact Z _ _ π (Rep.ext z.defers z.slots (Ext.refl _ _ _) z.inv Y) (Ext.refl _ _ _) fun _ _=>rfl
  ·rename_i v ws N;rw[fg]at h;cases h;have I:=J _ N hh;have:∃n,n<=C.heap.length/\(∀q,π[n]?≠some (some q))/\evalOp P (evA C.slots) C.heap n o=some (.eff v ws):=by
    rcases xw I with⟨_,_,y,e1,h0⟩|M
    ·cases e1;refine⟨p.heap.length,by simp only at hle;omega,D _ ?_ (Nat.le_refl _),I⟩;simp only[eN,List.mem_map];exact⟨_,h0,rfl⟩
    ·exact⟨C.heap.length,Nat.le_refl _,rY z.inv,M _⟩
   obtain⟨n,hn,hf,a8⟩:=this;obtain⟨nx,u,w',π',h1,h2,Y,h4,h5,h6⟩:=ks T z.inv hn hf (mz z.slots) a8;rw[h1];rcases h2 with rfl|⟨rfl,rfl⟩
   ·exact Z _ _ π' (Rep.ext z.defers z.slots Y h4 h5) Y (E h6)
   ·exact Z _ _ π' (Rep.ext z.defers z.slots Y h4 h5) Y (E h6)
  ·rename_i f args N;have I:evalOp P (evA C.slots) C.heap C.heap.length o=some (.call f args):=by
    have e1:evalOp P (evA C.slots) p.heap p.heap.length o=some (.call f args):=by rw[<-xa a7];exact N
    unfold evalOp at e1 ⊢;cases ho:o.op<;>simp only[ho]at e1 ⊢
    case call c=>
     unfold vf at e1 ⊢;cases hc:c.callee<;>simp only[hc]at e1 ⊢
     case value g=>exact e1
     case builtin b=>
      exfalso;unfold mU at e1;split at e1
      ·split at e1
       ·split at e1
        ·cases e1
        ·unfold bk.ofP at e1;split at e1<;>cases e1
       ·cases e1
      ·split at e1
       ·split at e1
        ·split at e1
         ·split at e1
          ·unfold jQ at e1;split at e1
           ·cases e1
           ·split at e1
            ·split at e1<;>cases e1
            ·split at e1<;>cases e1
            ·split at e1
             ·split at e1<;>cases e1
             ·split at e1<;>cases e1
             ·cases e1
            ·split at e1
             ·split at e1
              ·split at e1<;>cases e1
              ·cases e1
             ·cases e1
            ·cases e1
          ·cases e1
         ·cases e1
        ·split at e1
         ·unfold tD at e1;(repeat' split at e1)<;>cases e1
         ·cases e1
        ·cases e1
       ·cases e1
      ·split at e1
       ·split at e1
        ·split at e1
         ·unfold xk at e1;(repeat' split at e1)<;>cases e1
         ·cases e1
        ·cases e1
       ·cases e1
      ·split at e1
       ·split at e1
        ·split at e1
         ·unfold tx at e1;(repeat' split at e1)<;>cases e1
         ·cases e1
        ·cases e1
       ·cases e1
      ·split at e1
       ·split at e1<;>cases e1
       ·cases e1
      ·split at e1
       ·split at e1<;>cases e1
       ·cases e1
      ·split at e1
       ·split at e1<;>cases e1
       ·cases e1
      ·cases e1
     case invoke=>cases e1
    case makeFunc fn fs cs=>exfalso;cases fn<;>simp[mO]at e1
    case slice t x lo hi mx=>
     exfalso;cases mx with
     |some m=>simp[mO]at e1
     |none=>simp only[tW,bk.ofP]at e1;(repeat' split at e1)<;>cases e1
    case makeMap t r=>
     exfalso;simp only[mO,pI]at e1;(repeat' split at e1)<;>cases e1
    case lookup t x ix ok=>
     exfalso;simp only[mO,bk.ofP]at e1;(repeat' split at e1)<;>cases e1
    case mapUpdate t m k x=>
     exfalso;simp only[mO,bs]at e1;(repeat' split at e1)<;>cases e1
    case insert t m k x=>
     exfalso;simp only[mO,bs]at e1;(repeat' split at e1)<;>cases e1
    case mapEntry t m k=>
     exfalso;simp only[mO,mD]at e1;(repeat' split at e1)<;>cases e1
    case entryStore t m k x=>
     exfalso;simp only[mO,me]at e1;(repeat' split at e1)<;>cases e1
    case range t x=>
     exfalso;simp only[mO,nv]at e1;(repeat' split at e1)<;>cases e1
    case entry it=>
     exfalso;simp only[mO,jb]at e1;(repeat' split at e1)<;>cases e1
    all_goals exfalso
    all_goals try simp only[mO,wq,sf,yg,tE,kr,tS,oh,ps,lC,bk.ofP,Dd]at e1
    all_goals (repeat' split at e1)<;>first|cases e1|skip
   obtain⟨vs,h1,h2⟩:=ks T z.inv (Nat.le_refl _) (rY z.inv) (mz z.slots) I;rw[h1];simp only[Oper.upon];split at h
   ·rename_i v ws rd n hc;rw[fg]at h;cases h;simp only at S a1 hle D;have hh:=hh.resolve_right fun hx=>by
     obtain⟨⟨t,m,k,ht⟩,_⟩:=hx;unfold evalOp at N;rw[ht]at N;simp only[mO,bk.ofP]at N
     (repeat' split at N)<;>cases N
    have:=U _ _ _ _ hc C.heap hle (fun b O _=>hh b O) out B w π vs.toList z.inv (fun j g1 g2=>D j (by
      have:=S (j-p.heap.length) (by omega);rwa[show p.heap.length+(j-p.heap.length)=j by omega]at this) g1) h2
    rw[Array.toArray_toList]at this;refine this.mono ?_;rintro e b2 ⟨u,π',rfl,g1,g2,g3,g4⟩;exact Z _ _ π' (Rep.ext z.defers z.slots g1 g2 g3) g1 (E g4)
   ·rw[fg]at h;cases h
   ·cases h
  ·cases h
 ·rename_i hw;rw[<-a6]at hw;rw[mE z.slots hw];simp only[Bool.false_eq_true,if_false];rw[fg]at h;cases h;exact Z _ _ π (Rep.ext z.defers z.slots (Ext.refl _ _ _) z.inv rfl) (Ext.refl _ _ _) fun _ _=>rfl
 ·cases h
theorem getD_set_true{l:Array Bool}{i j:Nat}(m:i<l.size):(l.setIfInBounds i true).getD j false=(l.getD j false||decide (j=i)):=by
 simp only[Array.getD_eq_getD_getElem?,Array.getElem?_setIfInBounds];by_cases h:i=j
 ·subst h;simp[m]
 ·have p:¬j=i:=fun e=>h e.symm
  simp[h,p]
theorem getD_none{n:Nat}(i:Nat):(Array.replicate n false).getD i false=false:=by
 rw[Array.getD_eq_getD_getElem?,Array.getElem?_replicate];split<;>rfl
theorem Ep{l:Array Bool}{i:Nat}(h:l.getD i true=false):i<l.size/\l.getD i false=false:=by
 rw[Array.getD_eq_getD_getElem?]at h ⊢;cases j:l[i]? with
 |none=>rw[j]at h;simp at h
 |some x=>rw[j]at h;exact⟨(Array.getElem?_eq_some_iff.1 j).1,by simpa using h⟩
theorem yp{ops:List Oper}{a b:Ent}{j:List Ent}(h:sG ops a b j=true):a.ws=[]/\tf a.o.dst.toList (eG ops b.o)=true/\tf a.o.dst.toList b.o.dst.toList=true/\tf b.o.dst.toList (eG ops a.o)=true:=by
 unfold sG at h;split at h
 ·simp only[Bool.and_eq_true]at h;obtain⟨⟨⟨⟨⟨_,m⟩,p⟩,q⟩,z⟩,_⟩:=h;exact⟨List.isEmpty_iff.1 m,p,q,z⟩
 ·cases h
theorem tG{ops:List Oper}{es:List Ent}(q:oE ops (sU [] ops) es es 0=true){i j:Nat}{a b:Ent}(E:i<j)(I:es[i]?=some a)(J:es[j]?=some b)
  (hm:(∃x,x∈eN a.ws/\(x∈b.rd\/x∈eN b.ws))\/(∃t,t∈a.o.dst.toList/\(t∈eG ops b.o\/t∈b.o.dst.toList))\/(∃t,t∈b.o.dst.toList/\t∈eG ops a.o)):
  ((sU [] ops).getD j 0).testBit i=true:=by
 have:=(oP es 0 j i a b q J (by omega) I).1;rw[Nat.zero_add]at this;rcases this with h|h|h
 ·exact h
 ·exfalso;simp only[zm,Bool.and_eq_true]at h;obtain⟨⟨⟨⟨⟨h1,h2⟩,D⟩,M⟩,N⟩,S⟩:=h;rcases hm with⟨x,C,z|z⟩|⟨t,p,m|m⟩|⟨t,p,m⟩
  ·exact kM M C z
  ·exact kM N C z
  ·exact kM h1 p m
  ·exact kM h2 p m
  ·exact kM D p m
 ·exfalso;obtain⟨O,h1,h2,D⟩:=yp h;rcases hm with⟨x,C,_⟩|⟨t,p,m|m⟩|⟨t,p,m⟩
  ·rw[O]at C;simp[eN]at C
  ·exact kM h1 p m
  ·exact kM h2 p m
  ·exact kM D p m
theorem DJ{ops:List Oper}{es:List Ent}(m:oE ops (sU [] ops) es es 0=true){i j:Nat}{a b:Ent}(p:i<j)(q:es[i]?=some a)(z:es[j]?=some b){x:Nat}(C:x∈eN b.ws)(D:x∈a.rd):
  ((sU [] ops).getD j 0).testBit i=true\/sG ops a b ((es.take j).drop (i+1))=true:=by
 have:=(oP es 0 j i a b m z (by omega) q).1;rw[Nat.zero_add]at this;rcases this with h|h|h
 ·exact .inl h
 ·exfalso;simp only[zm,Bool.and_eq_true]at h;exact kM h.2 C D
 ·exact .inr h
theorem ym:∀(l:List Value),tB l=true->qy l l=some true
 |[],_=>rfl
 |.int k x::l,h=>by
  have hk:IntKind.ta k k=true\/IntKind.ta k k=false:=by cases IntKind.ta k k<;>simp
  have hk:IntKind.ta k k=true:=by cases k<;>first|rfl|(simp[tB]at h;done)
  simp only[qy,hk,ym l (by simpa [tB]using h)];simp
theorem DI{P:Program}{t:TypeId}{k:Value}(h:gF P t k=true):kEq k k=some true:=by
 unfold gF at h;split at h
 ·rename_i m j n hu;have hk:IntKind.ta j j=true:=by
   have:=IntKind.oD h;subst this;exact h
  simp[kEq,hk]
 ·simp[kEq]
 ·rename_i d a _;have:tB a.toList=true:=by
   unfold nw at h;split at h
   ·simp only[Bool.and_eq_true]at h;exact h.2
   ·simp only[Bool.and_eq_true]at h;exact h.1.2
   ·cases h
  simp only[kEq,ym _ this]
 ·cases h
theorem FV{k v:Value}(h:kEq k v=some true):v=k:=by
 unfold kEq at h;split at h
 ·rename_i a b;obtain⟨h1,_⟩:=u5 _ _ h;rw[Array.toList_inj.1 h1]
 ·split at h
  ·rename_i j;have e:=IntKind.oD j;subst e;simp only[Option.some.injEq,beq_iff_eq]at h;rw[h]
  ·cases h
 ·simp only[Option.some.injEq,beq_iff_eq]at h;rw[h]
 ·cases h
theorem vy{k:Value}:∀(es:List (Value×AV)) (i0 i:Nat) (A:AV),mc k es i0=some (some (i,A))->∃j,i=i0+j/\es[j]?=some (k,A)
 |[],_,_,_,h=>by simp[mc]at h
 |(k',m)::es,i0,i,A,h=>by
  simp only[mc]at h;split at h
  ·rename_i hk;cases h;exact⟨0,rfl,by rw[FV hk];rfl⟩
  ·obtain⟨j,h1,h2⟩:=vy es (i0+1) i A h;exact⟨j+1,by omega,by simpa using h2⟩
  ·cases h
theorem wC{k:Value}{z:AV}(hk:kEq k k=some true):∀(es:List (Value×AV)) (i0:Nat),mc k es i0=some none->mc k (es++[(k,z)]) i0=some (some (i0+es.length,z))
 |[],i0,_=>by simp[mc,hk]
 |(k',j)::es,i0,h=>by
  simp only[mc]at h;simp only[List.cons_append,mc];split at h
  ·cases h
  ·rw[wC hk es (i0+1) h];congr 3;simp;omega
  ·cases h
theorem zo{P:Program}{H H':List Blk}{t:TypeId}{x k:AV}{A:AV}(p:bW P H t x k false=some A){b:Nat}(U:x=.mp b){H1:List Blk}(h1:H1[b]?=H[b]?){v:AV}{ws:List (Nat×Blk)}(he:mD P H1 t x k=some (.eff v ws)):
  ∃X,ws=[(b,X)]/\(H'[b]?=some X->bW P H' t x k false=some A):=by
 subst U;unfold mD at he;unfold bW at p;have hm:ky H1 (.mp b)=ky H (.mp b):=by simp only[ky,h1]
 rw[hm]at he;split at p
 ·rename_i kt e Y es Z hu m C;obtain⟨a1,rfl⟩:H[b]?=some (.map es)/\Y=b:=by
   simp only[ky]at m;split at m
   ·rename_i es' M;cases m;exact⟨M,rfl⟩
   ·cases m
  rw[hu,m,C]at he;simp only at he;split at p
  ·rename_i z i O hk E D;rw[hk,E,D]at he;simp only at he;cases he;refine⟨_,rfl,fun J=>?_⟩;obtain⟨j,S,T⟩:=vy es 0 i O D;have I:es.set i (Z,O)=es:=by
    rw[Nat.zero_add]at S;subst S;apply List.ext_getElem?;intro q;rw[List.getElem?_set];split
    ·rename_i hq;subst hq;rw[if_pos (List.getElem?_eq_some_iff.1 T).1,T]
    ·rfl
   rw[I]at J;simp only[bW,hu,ky,J,C,hk,E,D];exact p
  ·rename_i z hk E D;rw[hk,E,D]at he;simp only at he;cases he;refine⟨_,rfl,fun J=>?_⟩;have N:=wC (z:=z) (DI hk) es 0 D;simp only[bW,hu,ky,J,C,hk,E,N];exact p
  ·cases p
 ·cases p
theorem Ax{P:Program}(o5:zl P)(hm:P.follows .mixedOrders=true){call:fG}(j1:ko P call){ops:Array Oper}{id:Nat}{st st':St}(h:jY P call ops.toList true st=some st')
  {out:Nat->Prop} {B:Nat->Prop} {w:World} {π:List (Option PB)} {a:Act} (hR:Rep out B w π st a) {Q:Exit->Act->World->Prop}
  (hQ:∀a' w' π',Rep out B w' π' st' a'->Ext B w w' (aJ out π st.heap) (aJ out π' st'.heap) π π'->Q .normal a' w'):(Code.region id ops true).wp P Q a w:=by
 unfold jY at h;simp only at h;split at h
 ·rename_i q8 es o6;split at h
  ·rename_i l0;cases h;simp only[Bool.and_eq_true]at l0;obtain⟨a7,a8⟩:=l0;obtain⟨L,b9⟩:∃L,L=st'.heap.length:=⟨_,rfl⟩;obtain⟨t1,t2,t3,t4,t5⟩:=vI (L:=L) ops.toList st st' es o6 (by omega);rw[<-b9]at t3;obtain⟨D,a1⟩:∃D:St,D=⟨st.slots,pad L st.heap⟩:=⟨_,rfl⟩;have E:D.heap.length=L:=by rw[a1];exact qk (by omega)
   obtain⟨j2,l3⟩:=hR.inv.same (w':={w with drawn:=w.drawn+1}) rfl rfl rfl rfl (fun _=>Nat.le_succ _);obtain⟨j3,e3⟩:=l3.extend (L-st.heap.length);obtain⟨π0,hπ0⟩:∃π0,π0=π++List.replicate (L-st.heap.length) none:=⟨_,rfl⟩;rw[<-hπ0]at j3 e3;have o7:Rep out B {w with drawn:=w.drawn+1} π0 D a:=by
    rw[a1];exact⟨hR.defers,RvL.ext e3 _ _ (RvL.ext j2 _ _ hR.slots),j3⟩
   have c0:∀b,st.heap.length<=b->∀q,π0[b]?≠some (some q):=by
    intro b J q hq;have:=hR.inv.len;rw[hπ0,List.getElem?_append_right (by omega)]at hq;have:=List.mem_of_getElem? hq;simp at this
   have l4:Ext B w {w with drawn:=w.drawn+1} (aJ out π st.heap) (aJ out π0 D.heap) π π0:=by rw[a1];exact j2.trans e3
   clear e3 j2 l3 j3;refine wp_region_any hm ?_;have key:∀(fuel:Nat) (C:Array Bool) (a:Act) (w1:World) (π1:List (Option PB)),C.size=ops.size->((List.range ops.size).countP fun i=>!C.getD i false)=fuel->
     (∀(j:Nat) (o:Oper),ops.toList[j]?=some o->C.getD j false=true->∀e∈o.after.toList,Region.binds .any e=true->C.getD e.on false=true)->
     Rep out B w1 π1 (cx es (fun j=>C.getD j false) 0 D) a->
     Ext B w w1 (aJ out π st.heap) (aJ out π1 (cx es (fun j=>C.getD j false) 0 D).heap) π π1->
     (∀b,st.heap.length<=b->(∀(j:Nat) (e:Ent),es[j]?=some e->C.getD j false=true->b∉eN e.ws)->∀q,π1[b]?≠some (some q))->
     wpAny P .any ops Q fuel C a w1:=by
    intro fuel;induction fuel with
    |zero=>
     intro C a w1 π1 l5 b1 b5 e4 e5 j4;have h7:∀i,i<ops.size->C.getD i false=true:=by
      intro i hi;rw[List.countP_eq_zero]at b1;have:=b1 i (by simpa using hi);simpa using this
     have c3:cx es (fun j=>C.getD j false) 0 D=st':=by
      have e1:cx es (fun j=>C.getD j false) 0 D=cx es (fun _=>true) 0 D:=by
       have hs:∀(j:Nat) (e:Ent),es[j]?=some e->C.getD (0+j) false=true:=fun j e he=>by
        rw[Nat.zero_add];exact h7 j (by have:=aH he;rw[t2]at this;simpa using this)
       have l1:=nG es (fun j=>C.getD j false) 0 D t3 E;have l2:=nG es (fun _=>true) 0 D t3 E;have j5:(cx es (fun j=>C.getD j false) 0 D).slots=(cx es (fun _=>true) 0 D).slots:=
        List.ext_getElem? fun t=>jd es _ _ 0 D D rfl rfl fun j e he _=>hs j e he
       have j6:(cx es (fun j=>C.getD j false) 0 D).heap=(cx es (fun _=>true) 0 D).heap:=
        List.ext_getElem? fun b=>jf es _ _ 0 D D t3 E E rfl fun j e he _=>hs j e he
       cases hA:cx es (fun j=>C.getD j false) 0 D;cases hB:cx es (fun _=>true) 0 D;rw[hA,hB]at j5 j6;simp only at j5 j6;rw[j5,j6]
      rw[e1,a1,t4,b9,CF]
     refine⟨?_,?_⟩
     ·unfold Region.ready;rw[List.filter_eq_nil_iff];intro i hi;have o8:i<ops.size:=by simpa using hi
      have h1:=h7 i o8;have h2:C.getD i true=true:=by
       rw[Array.getD_eq_getD_getElem?]at h1 ⊢;cases hl:C[i]? with
       |none=>rfl
       |some x=>rw[hl]at h1;simpa using h1
      simp[h2]
     ·rw[c3]at e4 e5;exact hQ a w1 π1 e4 e5
    |succ fuel ih=>
     intro C a w1 π1 l5 b1 b5 e4 e5 j4;refine⟨?_,?_⟩
     ·
      intro l6;exfalso;have hex:∃i,i<ops.size/\C.getD i false=false:=by
       have h8:0<(List.range ops.size).countP fun i=>!C.getD i false:=by omega
       rw[List.countP_pos_iff]at h8;obtain⟨i,h1,h2⟩:=h8;exact⟨i,by simpa using h1,by simpa using h2⟩
      have l7:∃i,i<ops.size/\C.getD i false=false/\∀k,k<i->C.getD k false=true:=by
       obtain⟨i,h1,h2⟩:=hex;induction i using Nat.strongRecOn with
       |_ i o9=>
        by_cases hk:∃k,k<i/\C.getD k false=false
        ·obtain⟨k,k1,k2⟩:=hk;exact o9 k k1 (by omega) k2
        ·exact⟨i,h1,h2,fun k p1=>by
          cases hv:C.getD k false with
          |true=>rfl
          |false=>exact(hk ⟨k,p1,hv⟩).elim⟩
      obtain⟨i,h1,h2,h3⟩:=l7;have Y:i∈Region.ready .any ops C:=by
       unfold Region.ready;rw[List.mem_filter];refine⟨by simpa using h1,?_⟩;have N:i<C.size:=by omega
       have e1:C.getD i true=false:=by
        rw[Array.getD_eq_getD_getElem?]at h2 ⊢;rw[Array.getElem?_eq_getElem N]at h2 ⊢;simpa using h2
       have e2:ops[i]?=some ops[i]:=Array.getElem?_eq_getElem h1;rw[e1,e2];simp only[Bool.not_false,Bool.true_and,Option.map_some,Option.getD_some,Array.all_eq_true'];intro e he;cases J:Region.binds .any e with
       |false=>rfl
       |true=>
        have:=qX ops.toList 0 i ops[i] a7 (by simp[h1]) e (by simpa using he) J;simp only[Bool.not_true,Bool.false_or];exact h3 _ (by omega)
      rw[l6]at Y;cases Y
     ·intro i hi;unfold Region.ready at hi;rw[List.mem_filter]at hi;obtain⟨c4,e6⟩:=hi;have c4:i<ops.size:=by simpa using c4
      simp only[Bool.and_eq_true,Bool.not_eq_true']at e6;obtain⟨e6,j7⟩:=e6;obtain⟨a6,S⟩:=Ep e6;obtain⟨o,ho⟩:∃o,ops[i]?=some o:=⟨ops[i],Array.getElem?_eq_getElem c4⟩;have j8:ops.toList[i]?=some o:=by rw[Array.getElem?_toList];exact ho
      rw[ho]at j7;simp only[Option.map_some,Option.getD_some,Array.all_eq_true']at j7;have c5:∀e∈o.after.toList,Region.binds .any e=true->C.getD e.on false=true:=by
       intro e he J;have:=j7 e (by simpa using he);simpa [J]using this
      obtain⟨e,he⟩:∃e,es[i]?=some e:=by
       have:i<es.length:=by rw[t2];simpa using c4
       exact⟨es[i],geT this⟩
      obtain⟨o2,I,st1,g1,g2,g3,g4,g5,g6,g7,g8⟩:=t5 i e he;rw[j8]at g1;cases g1;subst g4;have T:∀j b,j<i->es[j]?=some b->((∃x,x∈eN b.ws/\(x∈e.rd\/x∈eN e.ws))\/(∃t,t∈b.o.dst.toList/\(t∈eG ops.toList e.o\/t∈e.o.dst.toList))\/(∃t,t∈e.o.dst.toList/\t∈eG ops.toList b.o))->
        C.getD j false=true:=by
       intro j b hj J j9;have b2:=tG a8 hj J he j9;exact qW a7 (s:=fun j=>C.getD j false) b5 i e.o j8 c5 j b2
      have M:∀j b,i<j->es[j]?=some b->((∃x,x∈eN e.ws/\(x∈b.rd\/x∈eN b.ws))\/(∃t,t∈e.o.dst.toList/\(t∈eG ops.toList b.o\/t∈b.o.dst.toList))\/(∃t,t∈b.o.dst.toList/\t∈eG ops.toList e.o))->
        C.getD j false=false:=by
       intro j b hj J j9;have b2:=tG a8 hj he J j9;cases hv:C.getD j false with
       |false=>rfl
       |true=>
        have b3:j<ops.toList.length:=by rw[<-t2];exact aH J
        have:=qW a7 (s:=fun j=>C.getD j false) b5 j ops.toList[j] (geT b3) (b5 j _ (geT b3) hv) i b2;rw[this]at S;cases S
      have c6:=nG es (fun j=>C.getD j false) 0 D t3 E;have O:cx es (fun j=>decide (j<0+i)) 0 D=⟨I.slots,pad L I.heap⟩:=by rw[tc,a1,g8]
      have e7:∀t∈eG ops.toList e.o,(cx es (fun j=>C.getD j false) 0 D).slots[t]?=I.slots[t]?:=by
       intro t ht;have:=jd (t:=t) es (fun j=>C.getD j false) (fun j=>decide (j<0+i)) 0 D D rfl rfl (fun j b J hw=>by
        simp only[Nat.zero_add];rcases Nat.lt_trichotomy j i with N|rfl|hgt
        ·rw[T j b N J (.inr (.inl ⟨t,hw,.inl ht⟩))];simp[N]
        ·rw[S];simp
        ·rw[M j b hgt J (.inr (.inr ⟨t,hw,ht⟩))];simp;omega)
       rw[this,O]
      have k0:=(px g3).1;have b4:∀j b,i<j->es[j]?=some b->∀x,x∈eN b.ws->x∈e.rd->C.getD j false=false\/sG ops.toList e b ((es.take j).drop (i+1))=true:=by
       intro j b hj J x hx hr;rcases DJ a8 hj he J hx hr with b2|hs
       ·left;cases hv:C.getD j false with
        |false=>rfl
        |true=>
         have b3:j<ops.toList.length:=by rw[<-t2];exact aH J
         have:=qW a7 (s:=fun j=>C.getD j false) b5 j ops.toList[j] (geT b3) (b5 j _ (geT b3) hv) i b2;rw[this]at S;cases S
       ·exact .inr hs
      have k3:(∀b∈e.rd,(cx es (fun j=>C.getD j false) 0 D).heap[b]?=I.heap[b]?)\/((∃t m k,e.o.op=.lookup t m k false)/\∀r,evalOp P (evA I.slots) I.heap I.heap.length e.o=some r->evalOp P (evA I.slots) (cx es (fun j=>C.getD j false) 0 D).heap I.heap.length e.o=some r):=by
       by_cases hex:∃j b,i<j/\es[j]?=some b/\C.getD j false=true/\sG ops.toList e b ((es.take j).drop (i+1))=true
       ·right;obtain⟨j,b,b7,J,p2,U⟩:=hex;obtain⟨sw,p3,q9,r6⟩:=yp U;unfold sG at U;split at U
        ·rename_i t m k t' m' k' c7 j0;simp only[Bool.and_eq_true]at U;obtain⟨⟨⟨⟨⟨⟨⟨⟨⟨q1,q2⟩,q3⟩,q4⟩,q5⟩,_⟩,_⟩,_⟩,_⟩,qm⟩:=U;obtain rfl:=Nat.eq_of_beq_eq_true q1;obtain rfl:=Nat.eq_of_beq_eq_true q2;obtain rfl:=Nat.eq_of_beq_eq_true q3;refine⟨⟨_,_,_,c7⟩,fun r hr=>?_⟩;have c8:∀q c,i<q->q<j->es[q]?=some c->(∀x∈eN c.ws,x∉e.rd)/\m∉c.o.dst.toList/\k∉c.o.dst.toList:=by
          intro q c h1 h2 hc;have Y:c∈(es.take j).drop (i+1):=by
           refine List.mem_of_getElem? (i:=q-(i+1)) ?_;rw[List.getElem?_drop,show i+1+(q-(i+1))=q by omega,List.getElem?_take,if_pos h2];exact hc
          have:=List.all_eq_true.1 qm c Y;simp only[Bool.and_eq_true,Bool.not_eq_true']at this;obtain⟨⟨h3,h4⟩,h5⟩:=this;exact⟨fun x hx=>kM h3 hx,by simpa using h4,by simpa using h5⟩
         obtain⟨o3,sj,r7,f1,f2,f3,f4,f5,f6,f7,f8⟩:=t5 j b J;have l8:cx es (fun q=>decide (q<0+j)) 0 D=⟨sj.slots,pad L sj.heap⟩:=by rw[tc,a1,f8]
         have p4:∀y∈b.o.op.operands.toList,∀t,y=.tmp t->t∈eG ops.toList b.o:=fun y hy t ht=>by
          subst ht;simp only[eG,List.mem_append];exact .inl (wE hy)
         have p5:∀y,y∈[m,k]->I.slots[y]?=sj.slots[y]?:=by
          intro y hy;have p6:y∈eG ops.toList b.o:=p4 (.tmp y) (by rw[j0];simp[Op.operands]at hy ⊢;rcases hy with h|h<;>simp[h]) y rfl;have:=jd (t:=y) es (fun q=>decide (q<0+i)) (fun q=>decide (q<0+j)) 0 D D rfl rfl (fun q c hc hw=>by
           simp only[Nat.zero_add];rcases Nat.lt_trichotomy q i with N|rfl|hgt
           ·simp[N,Nat.lt_trans N b7]
           ·rw[he]at hc;cases hc;exact(kM p3 hw p6).elim
           ·by_cases c9:q<j
            ·obtain⟨_,z1,z2⟩:=c8 q c hgt c9 hc;simp at hy;rcases hy with h|h
             ·exact(z1 (h▸hw)).elim
             ·exact(z2 (h▸hw)).elim
            ·simp;omega)
          rw[O,l8]at this;exact this
         have l9:∀y,y∈[m,k]->evA sj.slots (.tmp y)=evA I.slots (.tmp y):=fun y hy=>(x8 fun t ht=>by cases ht;exact p5 y hy).symm
         have eo:∀(ρ:Operand->AV) (H:List Blk) (nid:Nat),evalOp P ρ H nid e.o=bk.ofP (bW P H t (ρ (.tmp m)) (ρ (.tmp k)) false):=fun ρ H nid=>by
          unfold evalOp;rw[c7];rfl
         rw[eo]at hr ⊢;cases Z:bW P I.heap t (evA I.slots (.tmp m)) (evA I.slots (.tmp k)) false with
         |none=>rw[Z]at hr;cases hr
         |some A=>
          rw[Z]at hr;obtain⟨b0,k4⟩:∃b0,evA I.slots (.tmp m)=.mp b0:=by
           unfold bW ky at Z;split at Z
           ·rename_i n0 _;split at n0
            ·exact⟨_,by assumption⟩
            ·cases n0
           ·cases Z
          have g1:e.o.guard=none:=by simpa using q4
          have p7:b.o.guard=none:=by simpa using q5
          have b8:e.rd=[b0]:=by
           have h0:=g2;unfold kG at h0;have hw:dk ops.toList e.o I.slots=some true:=by unfold dk;rw[g1]
           rw[hw]at h0;simp only[eo,Z,bk.ofP]at h0;rw[fg]at h0;have h0:=congrArg (fun z=>(z.bind fun w=>w.2).map (·.rd)) h0;simp only[Option.bind_some,Option.map_some,Option.some.injEq]at h0;rw[<-h0];unfold qt;rw[c7];simp only[k4,dG]
          have k5:b0<I.heap.length:=by
           have:=(px g3).1 b0 (by rw[b8];simp);exact this
          have b6:sj.heap[b0]?=I.heap[b0]?:=by
           have:=jf (b:=b0) es (fun q=>decide (q<0+i)) (fun q=>decide (q<0+j)) 0 D D t3 E E rfl (fun q c hc hw=>by
            simp only[Nat.zero_add];rcases Nat.lt_trichotomy q i with N|rfl|hgt
            ·simp[N,Nat.lt_trans N b7]
            ·rw[he]at hc;cases hc;rw[sw]at hw;simp[eN]at hw
            ·by_cases c9:q<j
             ·exact((c8 q c hgt c9 hc).1 b0 hw (by rw[b8];simp)).elim
             ·simp;omega)
           rw[O,l8]at this;simp only at this;rw[zb k5]at this;have n1:b0<sj.heap.length:=by
            by_cases hc:sj.heap.length<=b0
            ·exfalso;have h9:(pad L sj.heap)[b0]?=some .dead:=by
              have q7:b0<L:=by omega
              simp only[pad,iT];rw[List.getElem?_append_right hc,List.getElem?_replicate,if_pos (by omega)]
             rw[h9]at this;unfold bW at Z;rw[k4]at Z;simp only[ky,this]at Z
             (repeat' split at Z)<;>simp_all
            ·omega
           rw[zb n1]at this;exact this.symm
          have h0:=f2;rw[<-f4]at h0;unfold kG at h0;have hw:dk ops.toList b.o sj.slots=some true:=by unfold dk;rw[p7]
          have eb:evalOp P (evA sj.slots) sj.heap sj.heap.length b.o=mD P sj.heap t (evA sj.slots (.tmp m)) (evA sj.slots (.tmp k)):=by
           unfold evalOp;rw[j0];rfl
          rw[hw]at h0;simp only[eb,l9 m (by simp),l9 k (by simp)]at h0;split at h0
          ·rename_i v hv;unfold mD at hv;(repeat' split at hv)<;>cases hv
          ·rename_i v ws hv;rw[fg]at h0;have k6:=congrArg (fun z=>(z.bind fun w=>w.2).map (·.ws)) h0;simp only[Option.bind_some,Option.map_some,Option.some.injEq]at k6;obtain⟨X,hX,c3⟩:=zo (H':=(cx es (fun j=>C.getD j false) 0 D).heap) Z k4 b6 hv;rw[c3 ?_]
           ·exact hr
           have n3:b0∈eN b.ws:=by rw[<-k6,hX];simp[eN]
           have n4:=lO (b:=b0) es (fun q=>decide (q<0+i)) 0 j D b t3 E J (by simp;omega) n3 (fun q c hq hc hw=>by simp;omega);have e8:=jf (b:=b0) es (fun j=>C.getD j false) (fun q=>decide (q<0+i)||decide (q=0+j)) 0 D D t3 E E rfl (fun q c hc hw=>by
            simp only[Nat.zero_add];rcases Nat.lt_trichotomy q i with N|rfl|hgt
            ·rw[T q c N hc (.inl ⟨b0,hw,.inl (by rw[b8];simp)⟩)];simp[N]
            ·rw[he]at hc;cases hc;rw[sw]at hw;simp[eN]at hw
            ·by_cases c9:q=j
             ·subst c9;rw[p2];simp
             ·have hf:C.getD q false=false:=by
               rcases b4 q c hgt hc b0 hw (by rw[b8];simp)with h|h
               ·exact h
               ·exfalso;rcases Nat.lt_or_ge q j with h1|h1
                ·exact(c8 q c hgt h1 hc).1 b0 hw (by rw[b8];simp)
                ·have Y:b∈(es.take q).drop (i+1):=by
                  refine List.mem_of_getElem? (i:=j-(i+1)) ?_;rw[List.getElem?_drop,show i+1+(j-(i+1))=j by omega,List.getElem?_take,if_pos (by omega)];exact J
                 unfold sG at h;split at h
                 ·simp only[Bool.and_eq_true]at h;have h2:=List.all_eq_true.1 h.2 b Y;simp only[Bool.and_eq_true]at h2;exact kM h2.1.1 n3 (by rw[b8];simp)
                 ·cases h
              rw[hf];simp;omega)
           rw[e8,n4,O,<-k6,hX];simp only[aN];rw[gl (by have:=qk (H:=I.heap) (L:=L) (by omega);omega),if_pos rfl]
          ·rename_i f as hv;unfold mD at hv;(repeat' split at hv)<;>cases hv
          ·cases h0
        ·cases U
       ·left;intro b J;have:=jf (b:=b) es (fun j=>C.getD j false) (fun j=>decide (j<0+i)) 0 D D t3 E E rfl (fun j x hx hw=>by
         simp only[Nat.zero_add];rcases Nat.lt_trichotomy j i with N|rfl|hgt
         ·rw[T j x N hx (.inl ⟨b,hw,.inl J⟩)];simp[N]
         ·rw[S];simp
         ·have hf:C.getD j false=false:=by
           rcases b4 j x hgt hx b hw J with h|h
           ·exact h
           ·cases hv:C.getD j false with
            |false=>rfl
            |true=>exact(hex ⟨j,x,hgt,hx,hv,h⟩).elim
          rw[hf];simp;omega)
        rw[this,O];exact zb (k0 b J)
      have e9:∀b∈eN e.ws,I.heap.length<=b->∀q,π1[b]?≠some (some q):=by
       intro b J r8;refine j4 b (by omega) fun j x hx hl k7=>?_
       rcases Nat.lt_trichotomy j i with N|rfl|hgt
       ·have:=(oP es 0 i j x e a8 he (by omega) hx).2;simp only[eN,List.mem_map]at k7;obtain⟨p,hp,rfl⟩:=k7;have:=this p hp;omega
       ·rw[S]at hl;cases hl
       ·rw[M j x hgt hx (.inl ⟨b,J,.inr k7⟩)]at hl;cases hl
      have k8:I.heap.length+e.n<=L:=by
       rcases Nat.eq_zero_or_pos e.n with h0|h0
       ·omega
       ·have h1:=(px g3).2.2 (e.n-1) (by omega);have h2:=t3 e (List.mem_of_getElem? he) _ h1;omega
      have h6:fi e (cx es (fun j=>C.getD j false) 0 D)=cx es (fun j=>(C.setIfInBounds i true).getD j false) 0 D:=by
       have n5:(fun j=>(C.setIfInBounds i true).getD j false)=fun j=>C.getD j false||decide (j=0+i):=by
        funext j;rw[getD_set_true a6,Nat.zero_add]
       rw[n5];have p8:∀x∈eN e.ws,x<L:=t3 e (List.mem_of_getElem? he);have e1:(cx es (fun j=>C.getD j false||decide (j=0+i)) 0 D).slots=gX (cx es (fun j=>C.getD j false) 0 D).slots e.o.dst e.v:=by
        refine List.ext_getElem? fun t=>?_
        by_cases ht:t∈e.o.dst.toList
        ·exact nL es (fun j=>C.getD j false) 0 i D e he (by simpa using S) ht fun j b b7 J hw=>by
          rw[Nat.zero_add];exact M j b b7 J (.inr (.inl ⟨t,ht,.inr hw⟩))
        ·rw[sY ht];refine jd es _ _ 0 D D rfl rfl fun j b J hw=>?_
         have:¬0+j=0+i:=by
          intro e0;obtain rfl:j=i:=by omega
          rw[he]at J;cases J;exact ht hw
         rw[decide_eq_false this,Bool.or_false]
       have e2:(cx es (fun j=>C.getD j false||decide (j=0+i)) 0 D).heap=aN (cx es (fun j=>C.getD j false) 0 D).heap e.ws:=by
        refine List.ext_getElem? fun b=>?_
        by_cases J:b∈eN e.ws
        ·exact lO es (fun j=>C.getD j false) 0 i D e t3 E he (by simpa using S) J fun j x b7 hx hw=>by
          rw[Nat.zero_add];exact M j x b7 hx (.inl ⟨b,J,.inr hw⟩)
        ·rw[ny _ _ (by rw[c6.1];exact p8) J];refine jf es _ _ 0 D D t3 E E rfl fun j x hx hw=>?_
         have:¬0+j=0+i:=by
          intro e0;obtain rfl:j=i:=by omega
          rw[he]at hx;cases hx;exact J hw
         rw[decide_eq_false this,Bool.or_false]
       unfold fi;cases hF:cx es (fun j=>C.getD j false||decide (j=0+i)) 0 D;rw[hF]at e1 e2;simp only at e1 e2;rw[e1,e2]
      unfold wpOp;rw[ho];simp only;refine Be o5 j1 g2 g3 (by rw[c6.1];exact k8) e7 k3 e4 e9 fun a' w' π' n9 o0 p9=>?_
      rw[h6]at n9 o0;refine ih (C.setIfInBounds i true) a' w' π' (by simpa using l5) ?_ ?_ n9 (e5.trans o0) ?_
      ·have r9:((List.range ops.size).countP fun j=>!C.getD j false)=((List.range ops.size).countP fun j=>!(C.setIfInBounds i true).getD j false)+1:=by
        have gen:∀(l:List Nat),l.Nodup->i∈l->(l.countP fun j=>!C.getD j false)=(l.countP fun j=>!(C.setIfInBounds i true).getD j false)+1:=by
         intro l;induction l with
         |nil=>intro _ h;cases h
         |cons x l q0=>
          intro k9 Y;rw[List.nodup_cons]at k9;rw[List.countP_cons,List.countP_cons,getD_set_true a6];by_cases hx:x=i
          ·subst hx;have b6:(l.countP fun j=>!C.getD j false)=l.countP fun j=>!(C.setIfInBounds x true).getD j false:=by
            refine List.countP_congr fun y hy=>?_
            rw[getD_set_true a6];have:¬y=x:=by rintro rfl;exact k9.1 hy
            simp[this]
           rw[b6,S];simp
          ·have:=q0 k9.2 (by
            rcases List.mem_cons.1 Y with e0|e0
            ·exact(hx e0.symm).elim
            ·exact e0)
           rw[this];simp[hx];omega
        exact gen _ List.nodup_range (by simpa using c4)
       omega
      ·intro j oj hj hs e' o1 J;rw[getD_set_true a6]at hs ⊢;rw[Bool.or_eq_true]at hs ⊢;left;rcases hs with hs|hs
       ·exact b5 j oj hj hs e' o1 J
       ·obtain rfl:j=i:=by simpa using hs
        rw[j8]at hj;cases hj;exact c5 e' o1 J
      ·intro b J o4 q hq;have q6:b∉eN e.ws:=o4 i e he (by rw[getD_set_true a6];simp);rw[p9 b q6]at hq;refine j4 b J (fun j x hx hl=>o4 j x hx ?_) q hq;rw[getD_set_true a6,hl];simp
   refine key ops.size (Array.replicate ops.size false) a {w with drawn:=w.drawn+1} π0 (by simp) ?_ ?_ ?_ ?_ ?_
   ·have:∀i,(Array.replicate ops.size false).getD i false=false:=fun i=>getD_none i
    simp only[this,Bool.not_false];simp
   ·intro j o _ hj;have:∀i,(Array.replicate ops.size false).getD i false=false:=fun i=>getD_none i
    rw[this]at hj;cases hj
   ·have:(fun j=>(Array.replicate ops.size false).getD j false)=fun _=>false:=by funext i;exact getD_none i
    rw[this,sN];exact o7
   ·have:(fun j=>(Array.replicate ops.size false).getD j false)=fun _=>false:=by funext i;exact getD_none i
    rw[this,sN];exact l4
   ·intro b J _;exact c0 b J
  ·cases h
 ·cases h
end Go.Eng

