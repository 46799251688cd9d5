import Derived.Test.YtfclmnpffhbcpaaGreatSc6Plds
import Derived.KernelRfl
import Derived.Scope
set_option linter.all false
namespace Go.Eng
open Go Go.RowKit
variable[Dr]
variable{K:Nat}{P:Program}
def cM(K:Nat)(P:Program)(f:FuncId)(args:List AV)(j:List Blk)(r:AV)(H1:List Blk):Prop:=
 ∀(out:Nat->Prop) (B:Nat->Prop) (w:World) (π:List (Option PB)) (vs:List Value),Inv out B w π j->RvL w (aY out π j) π args vs->
  Calls P f vs.toArray w fun e w'=>∃u π',e=.returned u/\EK K B w w' (aY out π j) (aY out π' H1) π π'/\Inv out B w' π' H1/\Rv w' (aY out π' H1) π' r u
theorem EE{w:World}{mu:Nat->Prop}{π:List (Option PB)}:∀{vs:List AV} {u:Value},Rv w mu π (ki vs) u->∃l:List Value,RvL w mu π vs l/\∀(w':World) (mu':Nat->Prop) (π':List (Option PB)) (us:List AV),RvL w' mu' π' us l->Rv w' mu' π' (ki us) u
 |[],u,h=>by
  obtain⟨a,rfl,h⟩:=h;have D:a.toList=[]:=h;refine⟨[],rfl,fun w' mu' π' us j=>?_⟩;cases us with
  |nil=>exact⟨a,rfl,D⟩
  |cons x us=>obtain⟨v,C,e,_⟩:=j;cases e
 |[v],u,h=>by
  refine⟨[u],⟨u,[],rfl,h,rfl⟩,fun w' mu' π' us j=>?_⟩;cases us with
  |nil=>cases j
  |cons x us=>
   obtain⟨E,C,e,h1,q⟩:=j;cases e;cases us with
   |nil=>exact h1
   |cons y us=>obtain⟨_,_,e,_⟩:=q;cases e
 |v1::v2::vs,u,h=>by
  obtain⟨a,rfl,h⟩:=h;refine⟨a.toList,h,fun w' mu' π' us j=>?_⟩;obtain⟨x1,l1,e1,_,x2,l2,e2,_⟩:=h;cases us with
  |nil=>rw[e1]at j;cases j
  |cons I us=>
   cases us with
   |nil=>
    obtain⟨z,J,e,_,q⟩:=j;rw[e1]at e;cases e;rw[e2]at q;cases q
   |cons N us=>exact⟨a,rfl,j⟩
def AE(K:Nat)(P:Program)(rs:List ResultVar)(us:List AV)(H1:List Blk):X->St->Prop
 |.exit _,_=>False
 |_,st=>∃vs,fF P st rs=some vs/\Wk K ⟨vs,st.heap⟩ ⟨us,H1⟩
theorem AE.ret{rs:List ResultVar}{us:List AV}{H1:List Blk}{st:St}(vs:List AV)(k:Wk K ⟨vs,st.heap⟩ ⟨us,H1⟩)(h:fF P st rs=some vs:=by kernel_rfl):AE K P rs us H1 .ret st:=⟨vs,h,k⟩
theorem AE.normal{rs:List ResultVar}{us:List AV}{H1:List Blk}{st:St}(vs:List AV)(k:Wk K ⟨vs,st.heap⟩ ⟨us,H1⟩)(h:fF P st rs=some vs:=by kernel_rfl):AE K P rs us H1 .normal st:=⟨vs,h,k⟩
theorem cM.body(G:rq P){f:FuncId}{fn:Func}(R:P.funcs[f]?=some fn){c:Code}(S:fn.body=some c){args us:List AV}{z H1:List Blk}{s:List AV}{rs:List ResultVar}(hs:args++uF (fn.ntmps-args.length)=s)(D:fn.results.toList=rs)
  (h:CQ K P [.c c] (AE K P rs us H1) .normal ⟨s,z⟩):cM K P f args z (ki us) H1:=by
 intro out B w π vs T J;subst hs;subst D;refine calls_of_wp R S ?_;have hlen:=RvL.length _ _ J;have U:Rep out B w π ⟨args++uF (fn.ntmps-args.length),z⟩ {tmps:=vs.toArray++Array.replicate (fn.ntmps-vs.toArray.size) undef,defers:=[]}:=by
  refine⟨rfl,?_,T⟩;simp only[Array.toList_append,Array.toList_replicate,List.size_toArray,hlen];refine RvL.append _ _ _ _ J ?_;refine RvL.tj _ _ (by simp[uF]) fun i x y h1 C=>?_
  have:=List.mem_of_getElem? h1;simp[uF]at this;rw[this.2];trivial
 refine h out B w π _ _ U fun x st' a' w' π' E q Y=>?_
 have fin:∀j,fF P st' fn.results.toList=some j->Wk K ⟨j,st'.heap⟩ ⟨us,H1⟩->∃u,(results fn a'.tmps).run P w'=.ok u w'/\∃N π2,(Ending.returned u)=.returned N/\EK K B w w' (aY out π z) (aY out π2 H1) π π2/\Inv out B w' π2 H1/\Rv w' (aY out π2 H1) π2 (ki us) N:=by
  intro j Z I;obtain⟨u,r1,r2⟩:=qn q Z;obtain⟨l,l1,l2⟩:=EE r2;obtain⟨π2,O,k2,k3⟩:=I out B w' π' {tmps:=l.toArray,defers:=[]} ⟨rfl,l1,q.inv⟩;exact⟨u,r1,u,π2,rfl,Y.trans (EK.less k2 k3),O.inv,l2 _ _ _ _ O.slots⟩
 cases x with
 |normal=>obtain⟨j,h1,C⟩:=E;exact⟨q.defers,fin j h1 C⟩
 |ret=>obtain⟨j,h1,C⟩:=E;exact⟨q.defers,fin j h1 C⟩
 |exit id=>exact E.elim
theorem fD.Cn{w:World}{mu:Nat->Prop}{π:List (Option PB)}{p:PB}{x:Blk}(h:x.isLive=false):fD w mu π p x:=by
 cases x with
 |dead=>trivial
 |own cs=>cases h
 |fix cs=>cases h
 |map es=>cases h
 |iter m n seen=>cases h
 |rows rs=>cases h
set_option maxHeartbeats 1000000
theorem yb:∀(ws:List (Nat×Blk)) (H:List Blk),(∀q∈ws,q.1<H.length)->(bj H ws).length=H.length
 |[],H,_=>rfl
 |(j,b)::ws,H,h=>by
  have C:=h (j,b) (by simp);have z:(upd H j b).length=H.length:=by rw[ew (by omega),if_neg (by simp only at C;omega)]
  simp only[bj];rw[yb ws (upd H j b) (fun q D=>by rw[z];exact h q (by simp[D])),z]
theorem tY:∀(ws:List (Nat×Blk)) (H:List Blk) (j:Nat),(∀q∈ws,q.1<H.length)->(∀b,(j,b)∉ws)->(bj H ws)[j]?=H[j]?
 |[],H,_,_,_=>rfl
 |(i,b)::ws,H,j,h,z=>by
  have hi:=h (i,b) (by simp);simp only at hi;have C:(upd H i b).length=H.length:=by rw[ew (by omega),if_neg (by omega)]
  simp only[bj];rw[tY ws (upd H i b) j (fun q D=>by rw[C];exact h q (by simp[D])) (fun x E=>z x (by simp[E])),hU (by omega),if_neg];rintro rfl;exact z b (by simp)
theorem yz:∀(ws:List (Nat×Blk)) (H:List Blk) (j:Nat) (b:Blk),(∀q∈ws,q.1<H.length)->(ws.map (·.1)).Nodup->(j,b)∈ws->(bj H ws)[j]?=some b
 |[],_,_,_,_,_,h=>by simp at h
 |(i,x)::ws,H,j,b,h,D,hm=>by
  have hi:=h (i,x) (by simp);simp only at hi;have E:(upd H i x).length=H.length:=by rw[ew (by omega),if_neg (by omega)]
  have C:=List.nodup_cons.1 (by simpa using D:(i::ws.map (·.1)).Nodup);simp only[bj];have z:∀q∈ws,q.1<(upd H i x).length:=fun q I=>by rw[E];exact h q (by simp[I])
  rcases List.mem_cons.1 hm with e|hm
  ·obtain⟨rfl,rfl⟩:=Prod.mk.inj e;rw[tY ws _ j z (fun y J=>C.1 (List.mem_map.2 ⟨(j,y),J,rfl⟩)),hU (by omega),if_pos rfl]
  ·exact yz ws _ j b z C.2 hm
theorem xA:∀(l:List (Nat×Bool)),sa l=true->(l.map (·.1)).Nodup
 |[],_=>List.nodup_nil
 |(b,t)::l,h=>by
  simp only[sa,Bool.and_eq_true]at h;obtain⟨h1,C⟩:=h;have z:posOf l b 0=none:=by
   cases D:posOf l b 0 with
   |none=>rfl
   |some c=>rw[D]at h1;cases h1
  refine List.nodup_cons.2 ⟨fun hm=>?_,xA l C⟩;obtain⟨q,E,he⟩:=List.mem_map.1 hm;obtain⟨j,I⟩:=List.getElem?_of_mem E;exact rM l b 0 z j q.2 (by rw[I];exact congrArg some (Prod.ext he rfl))
def zd(K:Nat)(keep:List (Nat×Bool))(n m:Nat):List Nat:=(keep.take K).map (·.1)++List.range' n m
def xn(ρ:Nat->Option Nat):List Nat->List Bool->List Blk->List (Nat×Blk)
 |j::q,t::z,x::xs=>(j,rfB ρ t x)::xn ρ q z xs
 |_,_,_=>[]
def wA:List (Nat×Bool)->List (Nat×Blk)
 |[]=>[]
 |(b,_)::l=>(b,.dead)::wA l
def DG(K:Nat)(keep:List (Nat×Bool))(n m:Nat)(j:List Bool)(H1:List Blk):List (Nat×Blk):=
 xn (fun k=>(zd K keep n m)[k]?) (zd K keep n m) j H1++wA (keep.drop K)
def Aq:List Bool->List Blk->Prop
 |false::j,x::xs=>xU (some x)/\Aq j xs
 |true::j,_::xs=>Aq j xs
 |_,_=>True
theorem A6(ρ:Nat->Option Nat):∀(q:List Nat) (C:List Bool) (xs:List Blk),q.length=xs.length->C.length=xs.length->(xn ρ q C xs).map (·.1)=q
 |[],[],[],_,_=>rfl
 |j::q,t::C,x::xs,h1,z=>by simp only[xn,List.map_cons];rw[A6 ρ q C xs (by simpa using h1) (by simpa using z)]
 |[],_::_,_,h1,z=>by cases (List.eq_nil_of_length_eq_zero (by simpa using h1.symm));simp at z
 |_::_,[],_,h1,z=>by cases (List.eq_nil_of_length_eq_zero (by simpa using z.symm));simp at h1
 |[],[],_::_,h1,_=>by simp at h1
 |_::_,_::_,[],h1,_=>by simp at h1
theorem Ay(ρ:Nat->Option Nat):∀(q:List Nat) (z:List Bool) (xs:List Blk) (j:Nat) (b:Blk),(j,b)∈xn ρ q z xs->∃(k:Nat) (t:Bool) (x:Blk),q[k]?=some j/\z[k]?=some t/\xs[k]?=some x/\b=rfB ρ t x
 |[],_,_,_,_,h=>by simp[xn]at h
 |_::_,[],_,_,_,h=>by simp[xn]at h
 |_::_,_::_,[],_,_,h=>by simp[xn]at h
 |N::q,t::z,x::xs,j,b,h=>by
  simp only[xn,List.mem_cons,Prod.mk.injEq]at h;rcases h with⟨rfl,rfl⟩|h
  ·exact⟨0,t,x,rfl,rfl,rfl,rfl⟩
  ·obtain⟨k,C,D,h1,E,I,J⟩:=Ay ρ q z xs j b h;exact⟨k+1,C,D,by simpa using h1,by simpa using E,by simpa using I,J⟩
theorem yC:∀l:List (Nat×Bool),(wA l).map (·.1)=l.map (·.1)
 |[]=>rfl
 |(b,t)::l=>by simp only[wA,List.map_cons,yC l]
theorem yD:∀(l:List (Nat×Bool)) (j:Nat) (b:Blk),(j,b)∈wA l->b=.dead
 |[],_,_,h=>by simp[wA]at h
 |(i,t)::l,j,b,h=>by
  simp only[wA,List.mem_cons,Prod.mk.injEq]at h;rcases h with⟨_,rfl⟩|h
  ·rfl
  ·exact yD l j b h
theorem vF:∀(j:List Bool) (xs:List Blk) (k:Nat) (x:Blk),Aq j xs->j[k]?=some false->xs[k]?=some x->xU (some x)
 |[],_,k,x,_,h,_=>by simp at h
 |_::_,[],k,x,_,_,h=>by simp at h
 |false::j,y::xs,0,x,hp,_,h=>by simp at h;subst h;exact hp.1
 |false::j,y::xs,k+1,x,hp,h1,q=>vF j xs k x hp.2 (by simpa using h1) (by simpa using q)
 |true::j,y::xs,0,x,hp,h,_=>by simp at h
 |true::j,y::xs,k+1,x,hp,h1,q=>vF j xs k x hp (by simpa using h1) (by simpa using q)
theorem yB{H H':List Blk}{keep:List (Nat×Bool)}:∀(l:List (Nat×Bool)),(∀q∈l,H'[q.1]?=H[q.1]?)->rnH H' keep l=rnH H keep l
 |[],_=>rfl
 |(b,t)::l,h=>by
  simp only[rnH];rw[h (b,t) (by simp),yB l fun q j=>h q (by simp[j])]
theorem sD{H H':List Blk}:∀(l:List (Nat×Bool)),(∀q∈l,H'[q.1]?=H[q.1]?)->mz H l->mz H' l
 |[],_,_=>trivial
 |(b,false)::l,h,hp=>⟨by rw[h (b,false) (by simp)];exact hp.1,sD l (fun q j=>h q (by simp[j])) hp.2⟩
 |(b,true)::l,h,hp=>sD l (fun q j=>h q (by simp[j])) hp
theorem Bz{f:FuncId}{args a8:List AV}{H H0 H1:List Blk}{r v:AV}{ws:List (Nat×Blk)}{m:Nat}{rd:List Nat}(K:Nat)(keep:List (Nat×Bool))(ts:List Bool)(c7:cM K P f a8 H0 r H1)
  (h9:mz H keep) (l4:Aq ts H1) (j0:H1.length=K+m) (j1:ts.length=H1.length)
  (hn:sa keep=true:=by kernel_rfl) (j2:keep.all (fun q=>Nat.blt q.1 H.length)=true:=by kernel_rfl) (hK:Nat.ble K keep.length=true:=by kernel_rfl)
  (j3:rnL keep args=a8:=by kernel_rfl) (hH:rnH H keep keep=H0:=by kernel_rfl)
  (hv:rfA (fun k=>(zd K keep H.length m)[k]?) r=v:=by kernel_rfl) (l5:DG K keep H.length m ts H1=ws:=by kernel_rfl) (l6:keep.map (·.1)=rd:=by kernel_rfl):kN P f args H (.loc v ws rd m):=by
 intro H' hlen l7 out B w π vs O hπ ha;subst l6 hH j3;have hK:K<=keep.length:=lbT hK;have S:∀q∈keep,q.1<H.length:=fun q N=>by have:=List.all_eq_true.1 j2 q N;simpa [Nat.blt_eq]using this
 have c8:∀q∈keep,H'[q.1]?=H[q.1]?:=fun q N=>l7 q.1 (List.mem_map.2 ⟨q,N,rfl⟩) (S q N)
 rw[<-yB keep c8]at c7;have b7:=sD keep c8 h9;have c9:=xA keep hn;have hl:=O.len;obtain⟨π0,hπ0⟩:∃π0:List (Option PB),π0=keep.map fun q=>(π[q.1]?).getD none:=⟨_,rfl⟩
 have hπm:∀b c p,posOf keep b 0=some c->π[b]?=some (some p)->π0[c]?=some (some p):=by
  intro b c p h1 I;obtain⟨j,t,rfl,D⟩:=vP keep b 0 c h1;rw[hπ0,List.getElem?_map,Nat.zero_add,D];simp[I]
 have back:∀{j:Nat} {x:Blk} {p:PB},(rnH H' keep keep)[j]?=some x->x.isLive=true->π0[j]?=some (some p)->∃b t y,keep[j]?=some (b,t)/\H'[b]?=some y/\rfB (fun b=>posOf keep b 0) t y=x/\π[b]?=some (some p):=by
  intro j x p h1 I D;obtain⟨b,t,y,g1,g2,g3⟩:=zS keep j x h1 I;refine⟨b,t,y,g1,g2,g3,?_⟩;rw[hπ0,List.getElem?_map,g1]at D;simp only[Option.map_some,Option.some.injEq]at D;cases C:π[b]? with
  |none=>rw[C]at D;cases D
  |some q=>rw[C]at D;simp only[Option.getD_some]at D;rw[D]
 have b1:∀{j b:Nat} {t:Bool},keep[j]?=some (b,t)->b∈keep.map (·.1):=fun h=>List.mem_map.2 ⟨_,List.mem_of_getElem? h,rfl⟩
 obtain⟨T,J⟩:∃o:Nat->Prop,o=fun b=>out b\/∃(i:Nat) (x:Blk) (p:PB),H'[i]?=some x/\x.gr=true/\i∉keep.map (·.1)/\π[i]?=some (some p)/\x.owns p b:=⟨_,rfl⟩
 obtain⟨Q0,b2⟩:∃Q:Nat->Prop,Q=fun b=>b<w.heap.size/\¬∃(k:Nat) (x:Blk) (p:PB),(rnH H' keep keep)[k]?=some x/\x.isLive=true/\π0[k]?=some (some p)/\x.owns p b:=⟨_,rfl⟩
 have b8:∀b,aY T π0 (rnH H' keep keep) b->aY out π H' b:=by
  rintro b (ho|⟨j,x,p,e1,e2,e3,e4⟩)
  ·rw[J]at ho;rcases ho with ho|⟨i,x,p,g1,g2,_,g3,g4⟩
   ·exact .inl ho
   ·exact .inr ⟨i,x,p,g1,g2,g3,g4⟩
  ·obtain⟨b',t,y,g1,g2,g3,g4⟩:=back e1 (Blk.df e2) e3;exact .inr ⟨b',y,p,g2,rJ (by rw[g3];exact e2),g4,gv (by rw[g3];exact e4)⟩
 have j4:∀b,B b->Q0 b:=by
  intro b C;rw[b2];refine⟨O.bound b C,?_⟩;rintro⟨k,x,p,e1,e2,e3,e4⟩;obtain⟨b',t,y,g1,g2,g3,g4⟩:=back e1 e2 e3;exact(O.baseO b' y p b g2 g4 (gv (by rw[g3];exact e4))).1 C
 have j8:Inv T Q0 w π0 (rnH H' keep keep):=by
  refine⟨by rw[hπ0,List.length_map];exact(uA keep).symm,fun b C=>by rw[b2]at C;exact C.1,?_,?_,?_,?_⟩
  ·intro b C;rw[J]at C;rcases C with C|⟨i,x,p,g1,g2,g3,g4,g5⟩
   ·exact j4 b (O.out_lt b C)
   ·rw[b2];refine⟨(O.baseO i x p b g1 g4 g5).2,?_⟩;rintro⟨k,y,q,e1,e2,e3,e4⟩;obtain⟨b',t,z,k1,k2,k3,k4⟩:=back e1 e2 e3;refine O.sepO i b' x z p q b ?_ g1 k2 g4 k4 g2 g5 (gv (by rw[k3];exact e4));rintro rfl;exact g3 (b1 k1)
  ·intro j x p b0 e1 e2 e3;refine⟨fun N=>?_,?_⟩
   ·rw[b2]at N;exact N.2 ⟨j,x,p,e1,Blk.eY e3,e2,e3⟩
   ·obtain⟨b,t,y,g1,g2,g3,g4⟩:=back e1 (Blk.eY e3) e2;exact(O.baseO b y p b0 g2 g4 (gv (by rw[g3];exact e3))).2
  ·intro j x p e1 e2;cases hx:x.isLive with
   |false=>exact fD.Cn hx
   |true=>
    obtain⟨b,t,y,g1,g2,g3,g4⟩:=back e1 hx e2;have l8:=O.ok b y p g2 g4;subst g3;exact Bi b8 hπm (fun ht=>by subst ht;have:=tk keep b7 j b g1;rw[g2]at this;exact this) l8
  ·intro i j x y p q b0 b9 e1 e2 e3 e4 e5 e6 e7;obtain⟨b,t,z,g1,g2,g3,g4⟩:=back e1 (Blk.df e5) e3;obtain⟨b',t',z',k1,k2,k3,k4⟩:=back e2 (Blk.eY e7) e4;refine O.sepO b b' z z' p q b0 ?_ g2 k2 g4 k4 (rJ (by rw[g3];exact e5)) (gv (by rw[g3];exact e6)) (gv (by rw[k3];exact e7));rintro rfl;exact b9 (ta keep hn i j b t t' g1 k1)
 refine(c7 T Q0 w π0 vs j8 (tP b8 hπm args _ ha)).mono ?_;rintro e w' ⟨u,π1,rfl,hE,R,hr⟩;obtain⟨E,a1⟩:∃E,E=zd K keep H.length m:=⟨_,rfl⟩;have l9:E.length=K+m:=by rw[a1];simp only[zd,List.length_append,List.length_map,List.length_take,List.length_range'];omega
 have c0:∀k,k<K->∃t,keep[k]?=some (E[k]?.getD 0,t)/\E[k]?=some (E[k]?.getD 0):=by
  intro k hk;have c3:k<keep.length:=by omega
  refine⟨keep[k].2,?_⟩;have:E[k]?=some keep[k].1:=by
   rw[a1,zd,List.getElem?_append_left (by simp;omega),List.getElem?_map,List.getElem?_take,if_pos hk,geT c3];rfl
  rw[this];simp[geT c3]
 have j5:∀k,K<=k->k<K+m->E[k]?=some (H.length+(k-K)):=by
  intro k h1 I;rw[a1,zd,List.getElem?_append_right (by simp;omega)];have:(List.map (fun x:Nat×Bool=>x.1) (List.take K keep)).length=K:=by simp;omega
  rw[this,List.getElem?_range' (by omega)];simp
 have e8:E.Nodup:=by
  rw[a1,zd,List.nodup_append];refine⟨?_,List.nodup_range',?_⟩
  ·rw[List.map_take];exact List.Sublist.nodup (List.take_sublist _ _) c9
  ·rintro a j6 b C rfl;obtain⟨q,N,rfl⟩:=List.mem_map.1 j6;have h1:=S q (List.mem_of_mem_take N);have:=(List.mem_range'_1.1 C).1;omega
 have j7:∀{i j c:Nat},E[i]?=some c->E[j]?=some c->i=j:=by
  intro i j c h1 I;have hi:=aW h1;have U:=aW I;rw[geT hi]at h1;rw[geT U]at I;exact(List.getElem_inj e8).1 (by rw[Option.some.inj h1,Option.some.inj I])
 have c4:(xn (fun k=>E[k]?) E ts H1).map (·.1)=E:=A6 _ _ _ _ (by rw[l9,j0]) j1;rw[<-a1]at hv;have e9:ws=xn (fun k=>E[k]?) E ts H1++wA (keep.drop K):=by rw[<-l5,DG,<-a1]
 have b3:ws.map (·.1)=E++(keep.drop K).map (·.1):=by rw[e9,List.map_append,c4,yC]
 have j9:(ws.map (·.1)).Nodup:=by
  rw[b3,List.nodup_append];refine⟨e8,?_,?_⟩
  ·rw[List.map_drop];exact List.Sublist.nodup (List.drop_sublist _ _) c9
  ·rintro a j6 b C rfl;obtain⟨k,hk⟩:=List.getElem?_of_mem j6;obtain⟨q,N,rfl⟩:=List.mem_map.1 C;obtain⟨i,hi⟩:=List.getElem?_of_mem N;rw[List.getElem?_drop]at hi;by_cases a6:k<K
   ·obtain⟨t,g1,g2⟩:=c0 k a6;rw[hk]at g1;have:=ta keep hn k (K+i) _ t q.2 g1 (by rw[hi];rfl);omega
   ·have k0:=aW hk;rw[j5 k (by omega) (by omega)]at hk;have:=S q (List.mem_of_getElem? hi);have:=Option.some.inj hk;omega
 have Z:∀q∈ws,q.1<H'.length:=by
  intro q N;have:q.1∈ws.map (·.1):=List.mem_map.2 ⟨q,N,rfl⟩;rw[b3]at this;rcases List.mem_append.1 this with h|h
  ·obtain⟨k,hk⟩:=List.getElem?_of_mem h;by_cases a6:k<K
   ·obtain⟨t,g1,g2⟩:=c0 k a6;rw[hk]at g1;have:=S _ (List.mem_of_getElem? g1);simp only[Option.getD_some]at this;omega
   ·have k0:=aW hk;rw[j5 k (by omega) (by omega)]at hk;have:=Option.some.inj hk;omega
  ·obtain⟨x,hx,e⟩:=List.mem_map.1 h;have:=S x (List.mem_of_mem_drop hx);omega
 obtain⟨H2,a7⟩:∃H2,H2=bj H' ws:=⟨_,rfl⟩;have k6:H2.length=H'.length:=by rw[a7];exact yb ws H' Z
 have k7:∀{k j:Nat},E[k]?=some j->j<π.length:=by
  intro k j hk;have:j∈ws.map (·.1):=by rw[b3];exact List.mem_append.2 (.inl (List.mem_of_getElem? hk))
  obtain⟨q,N,rfl⟩:=List.mem_map.1 this;have:=Z q N;omega
 have hex:∀j:Nat,∃o:Option PB,(∀k:Nat,E[k]?=some j->o=(π1[k]?).getD none)/\(j∉E->o=(π[j]?).getD none):=by
  intro j;by_cases U:j∈E
  ·obtain⟨k,hk⟩:=List.getElem?_of_mem U;exact⟨(π1[k]?).getD none,fun k' c3=>by rw[j7 hk c3],fun h=>(h U).elim⟩
  ·exact⟨(π[j]?).getD none,fun k hk=>(U (List.mem_of_getElem? hk)).elim,fun _=>rfl⟩
 obtain⟨g,hg⟩:=Classical.axiomOfChoice hex;obtain⟨π2,hπ2⟩:∃π2:List (Option PB),π2=(List.range π.length).map g:=⟨_,rfl⟩;have ol:π2.length=π.length:=by rw[hπ2];simp
 have oi:∀{k j:Nat},E[k]?=some j->π2[j]?=some ((π1[k]?).getD none):=by
  intro k j hk;rw[hπ2,List.getElem?_map,List.getElem?_range (k7 hk),Option.map_some,(hg j).1 k hk]
 have oo:∀{j:Nat},j∉E->π2[j]?=π[j]?:=by
  intro j U;by_cases hl:j<π.length
  ·rw[hπ2,List.getElem?_map,List.getElem?_range hl,Option.map_some,(hg j).2 U,geT hl,Option.getD_some]
  ·rw[List.getElem?_eq_none (by omega),List.getElem?_eq_none (by omega)]
 have Y:∀(b c:Nat) (q:PB),E[b]?=some c->π1[b]?=some (some q)->π2[c]?=some (some q):=by
  intro b c q C N;rw[oi C,N];rfl
 have k8:∀(i:Nat) (p:PB),π[i]?=some (some p)->π2[i]?=some (some p):=by
  intro i p h;by_cases hi:i∈E
  ·obtain⟨k,hk⟩:=List.getElem?_of_mem hi;by_cases a6:k<K
   ·obtain⟨t,g1,g2⟩:=c0 k a6;rw[hk]at g1;simp only[Option.getD_some]at g1;have:π0[k]?=some (some p):=by rw[hπ0,List.getElem?_map,g1];simp[h]
    exact Y k i p hk (hE.pin k a6 p this)
   ·have k0:=aW hk;rw[j5 k (by omega) (by omega)]at hk;obtain rfl:=Option.some.inj hk;exact(hπ _ (by omega) (by omega) p h).elim
  ·rw[oo hi];exact h
 have key:∀(j:Nat) (x:Blk) (p:PB),H2[j]?=some x->x.isLive=true->π2[j]?=some (some p)->
   (j∉keep.map (·.1)/\H'[j]?=some x/\π[j]?=some (some p))\/∃(k:Nat) (t:Bool) (y:Blk),E[k]?=some j/\ts[k]?=some t/\H1[k]?=some y/\x=rfB (fun k=>E[k]?) t y/\π1[k]?=some (some p):=by
  intro j x p h1 I D;by_cases U:∃b,(j,b)∈ws
  ·obtain⟨b,C⟩:=U;have e:=yz ws H' j b Z j9 C;rw[<-a7,h1]at e;cases e;rw[e9]at C;rcases List.mem_append.1 C with C|C
   ·obtain⟨k,t,y,g1,g2,g3,g4⟩:=Ay _ _ _ _ _ _ C;refine .inr ⟨k,t,y,g1,g2,g3,g4,?_⟩;rw[oi g1]at D;cases hk:π1[k]? with
    |none=>rw[hk]at D;cases D
    |some q=>rw[hk]at D;simpa using D
   ·have:=yD _ _ _ C;subst this;cases I
  ·have U:∀b,(j,b)∉ws:=fun b C=>U ⟨b,C⟩
   rw[a7,tY ws H' j Z U]at h1;have b4:j∉ws.map (·.1):=fun hm=>by
    obtain⟨q,N,rfl⟩:=List.mem_map.1 hm;exact U q.2 N
   rw[b3]at b4;have k9:j∉E:=fun h=>b4 (List.mem_append.2 (.inl h))
   have n0:j∉(keep.drop K).map (·.1):=fun h=>b4 (List.mem_append.2 (.inr h))
   refine .inl ⟨fun hm=>?_,h1,?_⟩
   ·obtain⟨q,N,rfl⟩:=List.mem_map.1 hm;obtain⟨i,hi⟩:=List.getElem?_of_mem N;by_cases n1:i<K
    ·obtain⟨t,g1,g2⟩:=c0 i n1;rw[hi]at g1;have e:q.1=E[i]?.getD 0:=by rw[Option.some.inj g1]
     rw[<-e]at g2;exact k9 (List.mem_of_getElem? g2)
    ·refine n0 (List.mem_map.2 ⟨q,?_,rfl⟩);refine List.mem_of_getElem? (i:=i-K) ?_;rw[List.getElem?_drop,show K+(i-K)=i by omega];exact hi
   ·rw[oo k9]at D;exact D
 have b5:∀b,aY out π2 H2 b->aY T π1 H1 b:=by
  rintro b (h|⟨i,x,p,h1,I,D,h4⟩)
  ·exact .inl (by rw[J];exact .inl h)
  ·rcases key i x p h1 (Blk.df I) D with⟨g1,g2,g3⟩|⟨k,t,y,g1,g2,g3,g4,g5⟩
   ·exact .inl (by rw[J];exact .inr ⟨i,x,p,g2,I,g1,g3,h4⟩)
   ·exact .inr ⟨k,y,p,g3,rJ (by rw[<-g4];exact I),g5,gv (by rw[<-g4];exact h4)⟩
 have h8:Ext B w w' (aY out π H') (aY out π2 H2) π π2:=by
  refine⟨fun b C=>hE.low b (j4 b C),hE.size,fun b C n3=>?_,k8,hE.os,hE.tape,hE.output,hE.drawn⟩;obtain⟨k1,k2⟩:=hE.keep b C (fun h=>n3 (b8 b h));exact⟨k1,fun h=>k2 (b5 b h)⟩
 have b6:∀{k:Nat} {y:Blk} {p:PB} {c:Nat},H1[k]?=some y->π1[k]?=some (some p)->y.owns p c->w.heap.size<=c\/∃(b:Nat) (z:Blk) (q:PB),b∈keep.map (·.1)/\H'[b]?=some z/\π[b]?=some (some q)/\z.owns q c:=by
  intro k y p c h1 I D;have c5:=(R.baseO k y p c h1 I D).1;rw[b2]at c5;by_cases j2:c<w.heap.size
  ·right;have c5:∃(k:Nat) (x:Blk) (q:PB),(rnH H' keep keep)[k]?=some x/\x.isLive=true/\π0[k]?=some (some q)/\x.owns q c:=Classical.byContradiction fun hc=>c5 ⟨j2,hc⟩
   obtain⟨k',x,q,e1,e2,e3,e4⟩:=c5;obtain⟨b,t,z,g1,g2,g3,g4⟩:=back e1 e2 e3;exact⟨b,z,q,b1 g1,g2,g4,gv (by rw[g3];exact e4)⟩
  ·exact .inl (by omega)
 have same:∀{i:Nat} {x:Blk} {p:PB} {c:Nat},i∉keep.map (·.1)->H'[i]?=some x->π[i]?=some (some p)->x.owns p c->w'.heap[c]?=w.heap[c]?:=by
  intro i x p c h0 h1 I D;by_cases hm:x.gr=true
  ·exact hE.low _ (j8.out_lt _ (by rw[J];exact .inr ⟨i,x,p,h1,hm,h0,I,D⟩))
  ·refine(hE.keep c (O.baseO i x p c h1 I D).2 (fun h=>?_)).1;rcases b8 _ h with ho|⟨j,y,q,g1,g2,g3,g4⟩
   ·exact(O.baseO i x p c h1 I D).1 (O.out_lt _ ho)
   ·by_cases l0:j=i
    ·subst l0;rw[h1]at g1;cases g1;exact hm g2
    ·exact O.sepO j i y x q p c l0 g1 h1 g3 I g2 g4 D
 refine⟨u,π2,rfl,?_,?_,?_,?_⟩
 ·rw[<-a7];exact h8
 ·rw[<-a7];refine⟨by rw[ol,k6,hl],fun b C=>Nat.lt_of_lt_of_le (O.bound b C) hE.size,O.out_lt,?_,?_,?_⟩
  ·intro i x p c h1 I D;rcases key i x p h1 (Blk.eY D) I with⟨g1,g2,g3⟩|⟨k,t,y,g1,g2,g3,g4,g5⟩
   ·have:=O.baseO i x p c g2 g3 D;exact⟨this.1,Nat.lt_of_lt_of_le this.2 hE.size⟩
   ·have l1:y.owns p c:=gv (by rw[<-g4];exact D);exact⟨fun C=>(R.baseO k y p c g3 g5 l1).1 (j4 _ C),(R.baseO k y p c g3 g5 l1).2⟩
  ·intro i x p h1 I;cases hx:x.isLive with
   |false=>exact fD.Cn hx
   |true=>
    rcases key i x p h1 hx I with⟨g1,g2,g3⟩|⟨k,t,y,g1,g2,g3,g4,g5⟩
    ·exact fD.ext h8 (fun c hc=>same g1 g2 g3 hc) (O.ok i x p g2 g3)
    ·subst g4;exact Bi b5 Y (fun ht=>by subst ht;exact vF ts H1 k y l4 g2 g3) (R.ok k y p g3 g5)
  ·intro i j x y p q c b9 h1 I D h4 h5 h6 h7;rcases key i x p h1 (Blk.df h5) D with⟨g1,g2,g3⟩|⟨k,t,z,g1,g2,g3,g4,g5⟩
   ·rcases key j y q I (Blk.eY h7) h4 with⟨k1,k2,k3⟩|⟨k',t',z',k1,k2,k3,k4,k5⟩
    ·exact O.sepO i j x y p q c b9 g2 k2 g3 k3 h5 h6 h7
    ·have n4:z'.owns q c:=gv (by rw[<-k4];exact h7);refine(R.baseO k' z' q c k3 k5 n4).1 (R.out_lt _ ?_);rw[J];exact .inr ⟨i,x,p,g2,h5,g1,g3,h6⟩
   ·have c4:z.gr=true:=rJ (by rw[<-g4];exact h5);have c6:z.owns p c:=gv (by rw[<-g4];exact h6);rcases key j y q I (Blk.eY h7) h4 with⟨k1,k2,k3⟩|⟨k',t',z',k1,k2,k3,k4,k5⟩
    ·have n9:=(O.baseO j y q c k2 k3 h7).2;rcases b6 g3 g5 c6 with o0|⟨b,z2,q2,f1,f2,f3,f4⟩
     ·omega
     ·have o1:b≠j:=fun e=>k1 (e▸f1)
      by_cases l2:aY T π0 (rnH H' keep keep) c
      ·rcases l2 with ho|⟨o2,x2,p2,e1,e2,e3,e4⟩
       ·exact(R.baseO k z p c g3 g5 c6).1 (R.out_lt _ ho)
       ·obtain⟨b',t2,y2,m1,m2,m3,m4⟩:=back e1 (Blk.df e2) e3;have l3:b'≠j:=fun e=>k1 (e▸b1 m1)
        exact O.sepO b' j y2 y p2 q c l3 m2 k2 m4 k3 (rJ (by rw[m3];exact e2)) (gv (by rw[m3];exact e4)) h7
      ·exact(hE.keep c (by omega) l2).2 (.inr ⟨k,z,p,g3,c4,g5,c6⟩)
    ·have n5:k≠k':=by
      rintro rfl;rw[g1]at k1;exact b9 (Option.some.inj k1)
     exact R.sepO k k' z z' p q c n5 g3 k3 g5 k5 c4 c6 (gv (by rw[<-k4];exact h7))
 ·rw[<-a7,<-hv];exact xK b5 Y r u hr
 ·intro j U;have b4:j∉E:=fun hm=>by
   have:j∈ws.map (·.1):=by rw[b3];exact List.mem_append.2 (.inl hm)
   obtain⟨q,N,rfl⟩:=List.mem_map.1 this;exact U q.2 N
  exact oo b4
def Ca:Option Blk->Nat
 |some .dead=>0
 |some (.own _)=>1
 |some (.fix _)=>2
 |some (.map _)=>3
 |some (.iter ..)=>5
 |some (.rows _)=>6
 |none=>4
theorem zb{e:CE}{L:List CE}{f:FuncId}{args:List AV}{H:List Blk}{r:wP}(i a b:Nat)(h1:Ca H[i]?=a)(q:Ca e.H[i]?=b)(j:a≠b)(h:dJ L f args H=some r):dJ (e::L) f args H=some r:=by
 simp only[dJ];split
 ·rename_i hk;exact(j (by rw[<-h1,<-q,hk.2.2])).elim
 ·exact h
end Go.Eng


set_option linter.unusedVariables false
namespace Go.Eng
open Go Go.RowKit
variable[Dr]
noncomputable def uR(P:Program)(call:gi)(ops l:List Oper)(s:List AV)(h:List Blk):St:=match jj P call ops l ⟨s,h⟩with|some st=>st|none=>⟨s,h⟩
noncomputable def Bc(P:Program)(call:gi)(ops l:List Oper)(s:List AV)(h:List Blk):Bool:=match jj P call ops l ⟨s,h⟩with|some _=>true|none=>false
theorem Aw{P:Program}{call:gi}{ops l:List Oper}{s:List AV}{h:List Blk}(e:Bc P call ops l s h=true):jj P call ops l ⟨s,h⟩=some (uR P call ops l s h):=by
 unfold Bc at e;unfold uR;split at e
 ·rename_i st j;rw[j]
 ·cases e
section
variable{P:Program}{call:gi}{ops l:List Oper}{s:List AV}{h:List Blk}{K:List AV->List Blk->Prop}{KT:List AV->List Blk->List Ent->Prop}
theorem EVO.mu(n:Nat)(hk:EVO P call ops (l.drop n) (uR P call ops (l.take n) s h).slots (uR P call ops (l.take n) s h).heap K)(e:Bc P call ops (l.take n) s h=true:=by kernel_rfl):EVO P call ops l s h K:=by
 have:=EVO.many (l1:=l.take n) (l2:=l.drop n) (s1:=(uR P call ops (l.take n) s h).slots) (h1:=(uR P call ops (l.take n) s h).heap) (by rw[Aw e]) hk;rwa[List.take_append_drop]at this
noncomputable def C6(P:Program)(call:gi)(ops l:List Oper)(s:List AV)(h:List Blk):St:=match gO P call ops l ⟨s,h⟩with|some (st,_)=>st|none=>⟨s,h⟩
noncomputable def Gp(P:Program)(call:gi)(ops l:List Oper)(s:List AV)(h:List Blk):Bool:=match gO P call ops l ⟨s,h⟩with|some _=>true|none=>false
theorem EVT.mu(n:Nat)(hk:EVT P call ops (l.drop n) (C6 P call ops (l.take n) s h).slots (C6 P call ops (l.take n) s h).heap (fun q z es=>KT q z (Fj P call ops (l.take n) s h++es)))(e:Gp P call ops (l.take n) s h=true:=by kernel_rfl):EVT P call ops l s h KT:=by
 have:=EVT.many (l1:=l.take n) (l2:=l.drop n) (s1:=(C6 P call ops (l.take n) s h).slots) (h1:=(C6 P call ops (l.take n) s h).heap) (by
  unfold Gp at e;unfold C6;split at e
  ·rename_i st j;rw[j]
  ·cases e) hk
 rwa[List.take_append_drop]at this
end
section
variable{P:Program}{K:Nat}{k:List Fr}{F:X->St->Prop}{d:Code}{i:Nat}{l:List Oper}{s:List AV}{h:List Blk}
theorem CQ.ru(G:rq P)(hk:CQ K P k F .normal ⟨(uR P (dJ []) l l s h).slots,(uR P (dJ []) l l s h).heap⟩)(e:Bc P (dJ []) l l s h=true:=by kernel_rfl):CQ K P (.c (.region i l.toArray false)::k) F .normal ⟨s,h⟩:=
 CQ.region G bY ⟨_,Aw e,hk⟩
noncomputable def Bl(P:Program)(l:List Oper)(s:List AV)(h:List Blk)(keep:List Nat):Option St:=match jj P (dJ []) l l ⟨s,h⟩with|some st=>some ⟨qy keep st.slots 0,st.heap⟩|none=>none
theorem CQ.rn(G:rq P)(keep:List Nat)(q:List AV)(z:List Blk)(hk:CQ K P (.c d::k) F .normal ⟨q,z⟩)(e:Bl P l s h keep=some ⟨q,z⟩:=by kernel_rfl):CQ K P (.c (.region i l.toArray false)::.c d::k) F .normal ⟨s,h⟩:=by
 unfold Bl at e;split at e
 ·rename_i st j;obtain⟨s1,h1⟩:=st;exact CQ.region G bY ⟨_,j,CQ.wk ((Wk.mask keep).to (Option.some.inj e)) hk⟩
 ·cases e
theorem CQ.g1(G:rq P){f:FuncId}{args:List AV}{r:wP}(c:kN P f args h r)(he:EVO P (dJ [{f:=f,args:=args,H:=h,r:=r:CE}]) l l s h (fun j q=>CQ K P k F .normal ⟨j,q⟩)):CQ K P (.c (.region i l.toArray false)::k) F .normal ⟨s,h⟩:=CQ.region G (xM c) he
theorem CQ.t1(G:rq P){f:FuncId}{args:List AV}{r:wP}(c:kN P f args h r)(he:EVT P (dJ [{f:=f,args:=args,H:=h,r:=r:CE}]) l l s h (fun j q es=>vY l es=true/\CQ K P k F .normal ⟨j,q⟩)):CQ K P (.c (.region i l.toArray true)::k) F .normal ⟨s,h⟩:=CQ.dV G (xM c) he
end
theorem pY{P:Program}{f:FuncId}{args:List AV}{H:List Blk}{r:wP}{L:List CE}(c:kN P f args H r)(cs:lB P (dJ L)):lB P (dJ ({f:=f,args:=args,H:=H,r:=r:CE}::L)):=fun g a H' j e=>by
 simp only[dJ]at e;split at e
 ·rename_i hk;cases e;obtain⟨rfl,rfl,rfl⟩:=hk;exact c
 ·exact cs g a H' j e
theorem aH{P:Program}{f:FuncId}{args j:List AV}{H R H1:List Blk}{r:AV}(K m:Nat)(keep:List (Nat×Bool))(J:List Bool)(I:cM K P f j R r H1)
  (z:mz H keep) (N:Aq J H1) (C:H1.length=K+m) (D:J.length=H1.length)
  (E:rnL keep args=j) (hH:rnH H keep keep=R)
  (S:sa keep=true:=by kernel_rfl) (O:keep.all (fun q=>Nat.blt q.1 H.length)=true:=by kernel_rfl) (T:Nat.ble K keep.length=true:=by kernel_rfl):
  kN P f args H (.loc (rfA (fun k=>(zd K keep H.length m)[k]?) r) (DG K keep H.length m J H1) (keep.map (·.1)) m):=
 Bz K keep J I z N C D S O T E hH rfl rfl rfl
theorem pKo{H:List Blk}{b:Nat}{l:List (Nat×Bool)}{α:Type}(c:α->List AV)(hc:∀x,dd (c x)=[])(e:List α)(rest:mz H l)(j:H[b]?=some (.own (e.flatMap c)):=by kernel_rfl):mz H ((b,false)::l):=
 ⟨by rw[j];exact az hc e,rest⟩
def Gy:Option Blk->List Nat
 |some (.own cs)=>dd cs
 |some (.fix cs)=>dd cs
 |some (.map es)=>ud es
 |some (.iter ..)=>[0]
 |some (.rows rs)=>tZ rs
 |_=>[]
theorem pKc{H:List Blk}{b:Nat}{l:List (Nat×Bool)}(rest:mz H l)(j:Gy H[b]?=[]:=by kernel_rfl):mz H ((b,false)::l):=by
 refine⟨?_,rest⟩;generalize H[b]?=o at*;cases o with
 |none=>trivial
 |some x=>cases x<;>first|exact j|trivial|(simp[Gy]at j;done)
theorem pKt{H:List Blk}{b:Nat}{l:List (Nat×Bool)}(rest:mz H l):mz H ((b,true)::l):=rest
theorem pK0{H:List Blk}:mz H []:=trivial
def slH(b e:Bool)(lo hi:Nat)(f:Nat->Nat->AV):Option ct:=ct.ofP (match (match b with|true=>some (lo,hi)|false=>none),e with|some (l,h),true=>some (f l h)|_,_=>none)
theorem yO{b:Bool}{lo hi:Nat}{f:Nat->Nat->AV}{v:AV}(h:b=true)(j:f lo hi=v):slH b true lo hi f=some (.pure v):=by subst h;subst j;rfl
theorem Wk.cut(b:Nat){K:Nat}{cs:List AV}{s:List AV}{h:List Blk}(m:Nat)(C:h[b]?=some (.own cs)):Wk K ⟨s,h⟩ ⟨s,h.set b (.own (cs.take m))⟩:=fun out B w π a S=>by
 have E:=S.inv;have N:=aW C;have g:∀{k:Nat} {x:Blk},(h.set b (.own (cs.take m)))[k]?=some x->(k=b/\x=.own (cs.take m))\/(k≠b/\h[k]?=some x):=by
  intro k x hk;by_cases j:k=b
  ·subst j;rw[List.getElem?_set_self N]at hk;exact .inl ⟨rfl,(Option.some.inj hk).symm⟩
  ·rw[List.getElem?_set_ne (fun e=>j e.symm)]at hk;exact .inr ⟨j,hk⟩
 have old:∀{k:Nat} {x:Blk},(h.set b (.own (cs.take m)))[k]?=some x->∃y,h[k]?=some y/\y.isLive=x.isLive/\y.gr=x.gr/\(∀p b,x.owns p b->y.owns p b):=by
  intro k x hk;rcases g hk with⟨rfl,rfl⟩|⟨_,hk⟩
  ·exact⟨_,C,rfl,rfl,fun _ _ h=>h⟩
  ·exact⟨x,hk,rfl,rfl,fun _ _ h=>h⟩
 have I:aY out π (h.set b (.own (cs.take m)))=aY out π h:=by
  funext c;apply propext;constructor
  ·rintro(C|⟨k,x,p,h1,z,D,J⟩)
   ·exact .inl C
   ·obtain⟨y,O,_,Y,R⟩:=old h1;exact .inr ⟨k,y,p,O,by rw[Y];exact z,D,R _ _ J⟩
  ·rintro(T|⟨k,x,p,h1,z,D,J⟩)
   ·exact .inl T
   ·by_cases j:k=b
    ·subst j;rw[C]at h1;cases h1;exact .inr ⟨k,.own (cs.take m),p,List.getElem?_set_self N,rfl,D,J⟩
    ·exact .inr ⟨k,x,p,by rw[List.getElem?_set_ne (fun e=>j e.symm)];exact h1,z,D,J⟩
 refine⟨π,⟨S.defers,?_,?_⟩,fun b C=>?_,qs.refl π⟩
 ·simp only[I];exact S.slots
 ·refine⟨by simpa using E.len,E.bound,E.out_lt,?_,?_,?_⟩
  ·intro k x p b h1 z D;obtain⟨y,O,_,_,R⟩:=old h1;exact E.baseO k y p b O z (R _ _ D)
  ·intro k x p h1 z;simp only[I];rcases g h1 with⟨rfl,rfl⟩|⟨_,hk⟩
   ·obtain⟨Z,o2⟩:=E.ok k _ p C z;exact⟨Z,RvC.take m cs _ _ o2⟩
   ·exact E.ok k x p hk z
  ·intro k l x y p q b U h1 z D J h5 h6 h7;obtain⟨x',x1,_,x3,x4⟩:=old h1;obtain⟨y',O,_,_,R⟩:=old z;exact E.sepO k l x' y' p q b U x1 O D J (by rw[x3];exact h5) (x4 _ _ h6) (R _ _ h7)
 ·rw[I]at C;exact C
theorem Wk.Ge(i b:Nat){K:Nat}{α:Type}{c:α->List AV}{es:Nat}(hc:∀x,(c x).length=es)(l:List α)(k:Nat){s:List AV}{h:List Blk}(hk:k<=l.length)(hs:wW s i=.hs b 0 k es)(j:h[b]?=some (.own (l.flatMap c))):
  Wk K ⟨s,h⟩ ⟨s.set i (.hs b 0 (l.take k).length es),h.set b (.own ((l.take k).flatMap c))⟩:=
 ((Wk.cut b (k*es) j).to (by rw[qG hc])).trans (Wk.gu i (b:=b) (len:=k) (es:=es) (l.take k).length hs (by rw[List.length_take];omega))
theorem SnC.take{H:List Blk}{ok:Nat->Bool}{A j:List AV}(n:Nat)(h:SnC H ok A j):SnC H ok A (j.take n):=fun w mu mu' π b o q hm z=>RvC.take n _ _ _ (h w mu mu' π b o q hm z)
theorem Sn.hsk{H:List Blk}{ok:Nat->Bool}{b es:Nat}{α:Type}{c:α->List AV}{l:List α}{k:Nat}(hc:∀x,(c x).length=es)(hp:∀x,dd (c x)=[])(hk:k<=l.length)(j:ok b=true)
  (q:H[b]?=some (.own (l.flatMap c))\/H[b]?=some (.fix (l.flatMap c))):Sn H ok (.hs b 0 k es) (slT c (l.take k)):=by
 have h:=Sn.hs (len:=k) (es:=es) j q (SnC.take (k*es) (SnC.pure (az hp l))) (fun h=>by subst h;simp);unfold slT;rw[<-qG hc,List.length_take,Nat.min_eq_left hk];exact h
attribute [irreducible] uR Bc Bl C6 Gp
end Go.Eng


set_option linter.unusedVariables false
namespace Go.Eng
open Go Go.RowKit
variable[Dr]
section
variable{P:Program}{call:gi}{ops rest:List Oper}{o:Oper}{s:List AV}{h:List Blk}{K:List AV->List Blk->Prop}{KT:List AV->List Blk->List Ent->Prop}{v:AV}{ws:List (Nat×Blk)}{f:FuncId}{args:List AV}{rd:List Nat}{n:Nat}
theorem EVO.ca(hc:call f args h=some (.loc v ws rd n))(hk:EVO P call ops rest (iL s o.dst v) (bj (h++jw n) ws) K)(hw:ef ops o s=some true:=by kernel_rfl)(he:evalOp P (evA s) h h.length o=some (.call f args):=by kernel_rfl):EVO P call ops (o::rest) s h K:=EVO.cal hw he hc hk
theorem EVT.ca(hc:call f args h=some (.loc v ws rd n))(hk:EVT P call ops rest (iL s o.dst v) (bj (h++jw n) ws) (fun q z es=>KT q z (D8 o h v ws rd n::es)))(hw:ef ops o s=some true:=by kernel_rfl)(he:evalOp P (evA s) h h.length o=some (.call f args):=by kernel_rfl)(j:oH h.length (D8 o h v ws rd n)=true:=by kernel_rfl):EVT P call ops (o::rest) s h KT:=EVT.cal hw he hc j hk
end
def pV(P:Program)(h:List Blk)(F:gi):Prop:=lB P F
section
variable{P:Program}{h H:List Blk}{f:FuncId}{args:List AV}{r:wP}{L:List CE}
theorem ca1(c:kN P f args h r)(cs:pV P h (dJ L)):pV P h (dJ ({f:=f,args:=args,H:=h,r:=r:CE}::L)):=pY c cs
theorem ca2(H:List Blk)(c:kN P f args H r)(cs:pV P h (dJ L)):pV P h (dJ ({f:=f,args:=args,H:=H,r:=r:CE}::L)):=pY c cs
theorem ca3(c:kN P f args h r):pV P h (dJ [{f:=f,args:=args,H:=h,r:=r:CE}]):=pY c bY
theorem ca4(H:List Blk)(c:kN P f args H r):pV P h (dJ [{f:=f,args:=args,H:=H,r:=r:CE}]):=pY c bY
variable{K:Nat}{k:List Fr}{F:X->St->Prop}{i:Nat}{l:List Oper}{s:List AV}
theorem CQ.gn(G:rq P){L:List CE}(c:pV P h (dJ L))(he:EVO P (dJ L) l l s h (fun j q=>CQ K P k F .normal ⟨j,q⟩)):CQ K P (.c (.region i l.toArray false)::k) F .normal ⟨s,h⟩:=CQ.region G c he
theorem CQ.tn(G:rq P){L:List CE}(c:pV P h (dJ L))(he:EVT P (dJ L) l l s h (fun j q es=>vY l es=true/\CQ K P k F .normal ⟨j,q⟩)):CQ K P (.c (.region i l.toArray true)::k) F .normal ⟨s,h⟩:=CQ.dV G c he
theorem ok0{r:AV}(j:aU P f args r)(hp:dd args=[]:=by kernel_rfl):kN P f args H (.loc r [] [] 0):=dD (l:=[]) (SnL.pure hp) j
theorem cf0{e:CE}(hH:H=e.H:=by kernel_rfl):dJ (e::L) e.f e.args H=some e.r:=C1 hH
theorem cfF{e:CE}(q:dJ L f args H=some r)(j:Nat.beq f e.f=false:=by kernel_rfl):dJ (e::L) f args H=some r:=wM (fun h _=>absurd h (fun x=>by rw[show Nat.beq f e.f=true from by rw[x];exact Nat.beq_refl _]at j;cases j)) q
theorem cfA{e:CE}(j:args=e.args->r=e.r)(q:dJ L f args H=some r):dJ (e::L) f args H=some r:=wM (fun _ h=>j h) q
theorem cfH{e:CE}(i a b:Nat)(q:dJ L f args H=some r)(h1:Ca H[i]?=a:=by kernel_rfl)(z:Ca e.H[i]?=b:=by kernel_rfl)(j:Nat.beq a b=false:=by kernel_rfl):dJ (e::L) f args H=some r:=zb i a b h1 z (fun x=>by rw[x,Nat.beq_refl]at j;cases j) q
end
theorem sv{α:Type}{p q:Option α}{a b:α}(hp:p=some a)(j:q=some b)(e:p=q):a=b:=Option.some.inj (hp.symm.trans (e.trans j))
section
variable{P:Program}{K:Nat}{k:List Fr}{F:X->St->Prop}{d:Code}{i:Nat}{l:List Oper}{s:List AV}{h:List Blk}
theorem CQ.n2(m:Nat)(q:List (Nat×AV))(j:List Blk)(hk:CQ K P (.c d::k) F .normal ⟨mkS m 0 q,j⟩)(e:qy (q.map (·.1)) s 0=mkS m 0 q:=by kernel_rfl)(e2:h=j:=by kernel_rfl):CQ K P (.c d::k) F .normal ⟨s,h⟩:=CQ.norm _ e e2 hk
theorem CQ.r2(G:rq P)(m:Nat)(q:List (Nat×AV))(j:List Blk)(hk:CQ K P (.c d::k) F .normal ⟨mkS m 0 q,j⟩)(e:Bl P l s h (q.map (·.1))=some ⟨mkS m 0 q,j⟩:=by kernel_rfl):CQ K P (.c (.region i l.toArray false)::.c d::k) F .normal ⟨s,h⟩:=CQ.rn G _ _ _ hk e
theorem CQ.r3(G:rq P)(m:Nat)(q:List (Nat×AV))(hk:CQ K P (.c d::k) F .normal ⟨mkS m 0 q,h⟩)(e:Bl P l s h (q.map (·.1))=some ⟨mkS m 0 q,h⟩:=by kernel_rfl):CQ K P (.c (.region i l.toArray false)::.c d::k) F .normal ⟨s,h⟩:=CQ.rn G _ _ _ hk e
end
section
variable{α β:Type}{γ:Type}{δ:Type}
theorem bd2{x:Option α}{y:α->Option β}{f:(a:α)->β->Option γ}{r:γ}(h:bdO x (fun a=>bdO (y a) (f a))=some r):∃a,x=some a/\∃b,y a=some b/\f a b=some r:=by
 obtain⟨a,h1,h⟩:=bd h;obtain⟨b,j,h⟩:=bd h;exact⟨a,h1,b,j,h⟩
theorem bd3{x:Option α}{y:α->Option β}{z:α->β->Option γ}{f:(a:α)->(b:β)->γ->Option δ}{r:δ}(h:bdO x (fun a=>bdO (y a) (fun b=>bdO (z a b) (f a b)))=some r):∃a,x=some a/\∃b,y a=some b/\∃c,z a b=some c/\f a b c=some r:=by
 obtain⟨a,h1,b,j,h⟩:=bd2 h;obtain⟨c,q,h⟩:=bd h;exact⟨a,h1,b,j,c,q,h⟩
theorem gd2{a b:Bool}{t:Option α}{r:α}(h:gdO a (gdO b t)=some r):a=true/\b=true/\t=some r:=by
 obtain⟨h1,h⟩:=gd h;exact⟨h1,gd h⟩
theorem gd3{a b c:Bool}{t:Option α}{r:α}(h:gdO a (gdO b (gdO c t))=some r):a=true/\b=true/\c=true/\t=some r:=by
 obtain⟨h1,h⟩:=gd h;exact⟨h1,gd2 h⟩
end
theorem aU.bd{P:Program}(G:rq P){f:FuncId}{fn:Func}(z:P.funcs[f]?=some fn){args:List AV}{r:AV}(rs:List ResultVar)
  (h:CQ 0 P [.c (fn.body.getD .skip)] (aQ P rs r) .normal ⟨args++uF (fn.ntmps-args.length),[]⟩) (q:fn.body.isSome=true:=by kernel_rfl) (j:fn.results.toList=rs:=by kernel_rfl):aU P f args r:=
 aU.body G z (c:=fn.body.getD .skip) (by cases h1:fn.body with|none=>rw[h1]at q;cases q|some c=>rfl) rfl j h
theorem CQ.cd{P:Program}{K:Nat}{k:List Fr}{F:X->St->Prop}{st:St}{c:Operand}{a b:Code}{α:Type}{t:Bool}{x y:Option α}{r:α}(j:cdO t x y=some r)
  (h1:t=true->x=some r->CQ K P (.c a::k) F .normal st) (q:t=false->y=some r->CQ K P (.c b::k) F .normal st) (z:evA st.slots c=.at (.bool t):=by kernel_rfl):CQ K P (.c (.cond c a b)::k) F .normal st:=
 CQ.cond z (fun h=>h1 h (fw h j)) (fun h=>q h (fv h j))
theorem CQ.app{P:Program}{K:Nat}{C:List Fr}{F Q:X->St->Prop}(z:∀x st',Q x st'->CQ K P C F x st'):∀(q:List Fr) {x:X} {st:St},CQ K P q Q x st->CQ K P (q++C) F x st
 |[],_,_,h=>z _ _ h
 |.c d::q,.normal,st,h=>SC.mono (show SC K P st d (CQ K P q Q)from h) fun x st' D=>CQ.app z q D
 |.c d::q,.exit j,st,h=>CQ.app z q (x:=.exit j) h
 |.c d::q,.ret,st,h=>CQ.app z q (x:=.ret) h
 |.b i::q,.normal,st,h=>CQ.app z q (x:=.normal) h
 |.b i::q,.ret,st,h=>CQ.app z q (x:=.ret) h
 |.b i::q,.exit j,st,h=>by
  simp only[CQ,List.cons_append]at h ⊢;split at h
  ·exact CQ.app z q h
  ·exact CQ.app z q h
theorem CQ.GW{P:Program}{K:Nat}{k:List Fr}{F Q:X->St->Prop}{st:St}{a:Code}(h:CQ K P [.c a] Q .normal st)(j:∀x st',Q x st'->CQ K P k F x st'):CQ K P (.c a::k) F .normal st:=CQ.app j [.c a] h
abbrev nS:AV:=.at (.slice none 0 0)
theorem gdn{α:Type}{b:Bool}{t:Option α}{r:α}(h:gdO (!b) t=some r):b=false/\t=some r:=by
 obtain⟨h1,j⟩:=gd h;exact⟨by simpa using h1,j⟩
theorem CQ.cN{P:Program}{K:Nat}{k:List Fr}{F:X->St->Prop}{st:St}{c:Operand}{a b:Code}{t:Bool}(h:t=false)(hk:CQ K P (.c b::k) F .normal st)(j:evA st.slots c=.at (.bool t):=by kernel_rfl):CQ K P (.c (.cond c a b)::k) F .normal st:=
 CQ.cond j (fun e=>by rw[h]at e;cases e) (fun _=>hk)
theorem CQ.cY{P:Program}{K:Nat}{k:List Fr}{F:X->St->Prop}{st:St}{c:Operand}{a b:Code}{t:Bool}(h:t=true)(hk:CQ K P (.c a::k) F .normal st)(j:evA st.slots c=.at (.bool t):=by kernel_rfl):CQ K P (.c (.cond c a b)::k) F .normal st:=
 CQ.cond j (fun _=>hk) (fun e=>by rw[h]at e;cases e)
def pU{α:Type}(l:List α)(a:Nat)(ys:List α):List α:=(l.take a++ys++l.drop (a+ys.length)).take l.length
@[simp] theorem CU {α:Type} (l:List α) (a:Nat) (ys:List α):(pU l a ys).length=l.length:=by
 unfold pU;simp only[List.length_take,List.length_append,List.length_drop];omega
theorem Ax{α:Type}{l:List α}{a:Nat}{ys:List α}(h:a+ys.length<=l.length):pU l a ys=l.take a++ys++l.drop (a+ys.length):=by
 unfold pU;refine List.take_of_length_le ?_;simp only[List.length_take,List.length_append,List.length_drop];omega
theorem wG:∀(xs cs:List AV) (off:Nat),off+xs.length<=cs.length->setCells cs off xs=cs.take off++xs++cs.drop (off+xs.length)
 |[],cs,off,_=>by simp[setCells]
 |x::xs,cs,off,h=>by
  have j:off<cs.length:=by simp at h;omega
  rw[setCells,wG xs (cs.set off x) (off+1) (by simp at h ⊢;omega)];rw[List.take_set,List.drop_set_of_lt (by omega),List.take_add_one,geT j];have e:(cs.take off++(some cs[off]).toList).set off x=cs.take off++[x]:=by
   have:(cs.take off).length=off:=by rw[List.length_take];omega
   rw[List.set_append_right _ _ (by omega),this];simp
  rw[e];simp[List.append_assoc,Nat.add_assoc,Nat.add_comm 1]
def clS(g:Bool)(b:Nat)(cs:List AV):Option ct:=match g with|true=>some (.eff (.at (.tuple #[])) [(b,.own cs)])|false=>none
theorem Hk{α:Type}{c:α->List AV}{es:Nat}(hc:∀x,(c x).length=es){l:List α}{z:α}{zc:List AV}{b len off a:Nat}(D:zc=c z)(j:off=a*es)(C:a+len<=l.length):
  clS (true&&decide (off+len*es<=(l.flatMap c).length)&&true&&true&&true) b (setCells (l.flatMap c) off (eu zc len))=some (.eff (.at (.tuple #[])) [(b,.own ((pU l a (List.replicate len z)).flatMap c))]):=by
 subst j;subst D;have h1:a*es+len*es<=(l.flatMap c).length:=by rw[jK hc,<-Nat.add_mul];exact Nat.mul_le_mul_right _ C
 have q:(List.replicate len z).length=len:=List.length_replicate;unfold clS;simp only[decide_eq_true h1];rw[tg,wG _ _ _ (by rw[jK hc,q];exact h1),Ax (by rw[q];exact C)];rw[jK hc,q,qG hc,<-Nat.add_mul,sX hc,List.flatMap_append,List.flatMap_append];rfl
theorem Gc{lo:Int}{n:Nat}(h:inS lo (n:Int) n=true):lo.toNat+(n-lo.toNat)<=n:=by
 simp only[inS,Bool.and_eq_true,decide_eq_true_eq]at h;omega
def eG(K:Nat)(P:Program)(rs:List ResultVar)(us:List AV)(H1:List Blk):X->St->Prop:=fun x st=>∃T,Wk K st T/\AE K P rs us H1 x T
theorem eG.ret{K:Nat}{P:Program}{rs:List ResultVar}{us:List AV}{H1:List Blk}{st:St}(vs:List AV)(k:Wk K ⟨vs,st.heap⟩ ⟨us,H1⟩)(h:fF P st rs=some vs:=by kernel_rfl):eG K P rs us H1 .ret st:=⟨st,Wk.refl st,AE.ret vs k h⟩
theorem eG.normal{K:Nat}{P:Program}{rs:List ResultVar}{us:List AV}{H1:List Blk}{st:St}(vs:List AV)(k:Wk K ⟨vs,st.heap⟩ ⟨us,H1⟩)(h:fF P st rs=some vs:=by kernel_rfl):eG K P rs us H1 .normal st:=⟨st,Wk.refl st,AE.normal vs k h⟩
theorem eG.wk{K:Nat}{P:Program}{rs:List ResultVar}{us:List AV}{H1:List Blk}{x:X}{st T:St}(hw:Wk K st T)(h:eG K P rs us H1 x T):eG K P rs us H1 x st:=by
 obtain⟨U,h1,j⟩:=h;exact⟨U,hw.trans h1,j⟩
theorem SC.Gg{K:Nat}{P:Program}{st:St}{c:Code}{Q:X->St->Prop}(h:SC K P st c (fun x st'=>∃T,Wk K st' T/\Q x T)):SC K P st c Q:=fun out B w π a R z C=>h out B w π a R z fun x st' a' w' π' j q D=>by
 obtain⟨T,hw,j⟩:=j;obtain⟨π2,g1,g2,g3⟩:=hw out B w' π' a' q;exact C x T a' w' π2 j g1 (D.trans (EK.less g2 g3))
theorem cM.js{K:Nat}{P:Program}(G:rq P){f:FuncId}{fn:Func}(z:P.funcs[f]?=some fn){c:Code}(C:fn.body=some c){args us:List AV}{q H1:List Blk}{s:List AV}{rs:List ResultVar}(hs:args++uF (fn.ntmps-args.length)=s)(j:fn.results.toList=rs)
  (h:CQ K P [.c c] (eG K P rs us H1) .normal ⟨s,q⟩):cM K P f args q (ki us) H1:=cM.body G z C hs j (SC.Gg h)
section
variable{K:Nat}
theorem RvC.GM{w:World}{mu:Nat->Prop}{π:List (Option PB)}{A q:AV}(z:∀v,Rv w mu π A v->Rv w mu π q v):∀(cs:List AV) (j b o:Nat),cs[j]?=some A->RvC w mu π cs b o->RvC w mu π (cs.set j q) b o
 |[],j,_,_,h,_=>by simp at h
 |c::cs,0,b,o,h,k=>by
  simp at h;subst h;obtain⟨⟨v,h1,C,D⟩,E⟩:=k;exact⟨⟨v,h1,C,z _ D⟩,E⟩
 |c::cs,j+1,b,o,h,k=>⟨k.1,RvC.GM z cs j b (o+1) (by simpa using h) k.2⟩
theorem Wk.GL(i j:Nat){A J:AV}{cs:List AV}{s:List AV}{h:List Blk}(hA:∀(out B:Nat->Prop) (w:World) (π:List (Option PB)) (v:Value),Inv out B w π h->Rv w (aY out π h) π A v->Rv w (aY out π h) π J v)(D:h[i]?=some (.own cs))(hc:cs[j]?=some A):Wk K ⟨s,h⟩ ⟨s,h.set i (.own (cs.set j J))⟩:=fun out B w π a U=>by
 have E:=U.inv;have R:=aW D;have g:∀{k:Nat} {x:Blk},(h.set i (.own (cs.set j J)))[k]?=some x->(k=i/\x=.own (cs.set j J))\/(k≠i/\h[k]?=some x):=by
  intro k x hk;by_cases z:k=i
  ·subst z;rw[List.getElem?_set_self R]at hk;exact .inl ⟨rfl,(Option.some.inj hk).symm⟩
  ·rw[List.getElem?_set_ne (fun e=>z e.symm)]at hk;exact .inr ⟨z,hk⟩
 have old:∀{k:Nat} {x:Blk},(h.set i (.own (cs.set j J)))[k]?=some x->∃y,h[k]?=some y/\y.isLive=x.isLive/\y.gr=x.gr/\(∀p b,x.owns p b->y.owns p b):=by
  intro k x hk;rcases g hk with⟨rfl,rfl⟩|⟨_,hk⟩
  ·exact⟨_,D,rfl,rfl,fun _ _ h=>h⟩
  ·exact⟨x,hk,rfl,rfl,fun _ _ h=>h⟩
 have N:aY out π (h.set i (.own (cs.set j J)))=aY out π h:=by
  funext b;apply propext;constructor
  ·rintro(D|⟨k,x,p,h1,C,I,O⟩)
   ·exact .inl D
   ·obtain⟨y,S,_,y3,T⟩:=old h1;exact .inr ⟨k,y,p,S,by rw[y3];exact C,I,T _ _ O⟩
  ·rintro(Y|⟨k,x,p,h1,C,I,O⟩)
   ·exact .inl Y
   ·by_cases z:k=i
    ·subst z;rw[D]at h1;cases h1;exact .inr ⟨k,.own (cs.set j J),p,List.getElem?_set_self R,rfl,I,O⟩
    ·exact .inr ⟨k,x,p,by rw[List.getElem?_set_ne (fun e=>z e.symm)];exact h1,C,I,O⟩
 refine⟨π,⟨U.defers,?_,?_⟩,fun b D=>?_,qs.refl π⟩
 ·simp only[N];exact U.slots
 ·refine⟨by simpa using E.len,E.bound,E.out_lt,?_,?_,?_⟩
  ·intro k x p b h1 C I;obtain⟨y,S,_,_,T⟩:=old h1;exact E.baseO k y p b S C (T _ _ I)
  ·intro k x p h1 C;simp only[N];rcases g h1 with⟨rfl,rfl⟩|⟨_,hk⟩
   ·obtain⟨o1,o2⟩:=E.ok k _ p D C;exact⟨o1,RvC.GM (fun v hv=>hA out B w π v E hv) cs j _ _ hc o2⟩
   ·exact E.ok k x p hk C
  ·intro k l x y p q b Z h1 C I O h5 h6 h7;obtain⟨x',x1,_,x3,x4⟩:=old h1;obtain⟨y',S,_,_,T⟩:=old C;exact E.sepO k l x' y' p q b Z x1 S I O (by rw[x3];exact h5) (x4 _ _ h6) (T _ _ h7)
 ·rw[N]at D;exact D
theorem Wk.Fp(i j:Nat){b len es:Nat}{cs cs':List AV}{s:List AV}{h:List Blk}(hi:h[i]?=some (.own cs'))(hc:cs'[j]?=some (.hs b 0 len es))(E:h[b]?=some (.fix cs))(hp:dd cs=[])(C:len=0->cs=[]):Wk K ⟨s,h⟩ ⟨s,h.set i (.own (cs'.set j (.sl true cs len)))⟩:=Wk.GL i j (fun out B w π v I J=>by
 rcases J with⟨rfl,rfl⟩|⟨p,a,cap,h1,rfl,D,q,N⟩
 ·exact .inl ⟨rfl,rfl,C rfl,rfl⟩
 ·obtain⟨g1,g2⟩:=AN I b p cs E h1;obtain⟨O,R,S⟩:=a;simp only at q;subst q;by_cases z:0<cap
  ·obtain⟨e1,_⟩:=N z;cases e1;exact .inr (.inl ⟨_,_,cap,rfl,D,fun _=>g2,mm (fun _ h=>h) cs _ _ hp g1⟩)
  ·have:cs=[]:=C (by omega);subst this;exact .inr (.inl ⟨O,R,cap,rfl,D,fun h=>(h rfl).elim,trivial⟩)) hi hc
end
theorem D3{α:Type}{c:α->List AV}{es:Nat}{z:α}{zc:List AV}{n:Int}{nid by_:Nat}(j:zc=c z)(h:decide (0<n)=true)(q:decide (n<=4611686018427387904)=true)(C:decide (n.toNat*by_<=140737488355328)=true):
  lJ (decide (0<n)&&decide (n<=4611686018427387904)&&decide (n.toNat*by_<=140737488355328)&&true&&true&&true) (some (.eff (.hs nid 0 n.toNat es) [(nid,.own (eu zc n.toNat))]))=
   some (.eff (.hs nid 0 (List.replicate n.toNat z).length es) [(nid,.own ((List.replicate n.toNat z).flatMap c))]):=by
 subst j;rw[h,q,C,tg,List.length_replicate];rfl
end Go.Eng
namespace Go.L
open Go Go.Eng
variable[Dr]
theorem DZ{P:Program}{ρ:Operand->AV}{H:List Blk}{nid:Nat}{dst:Option Tmp}{ty t e:TypeId}{pos:String}{after:Array Edge}{g:Option (Nat×Bool)}{a b:Operand}{k:IntKind}{i:Int}{α:Type}[Inhabited α]{c:α->List AV}{l:List α}{A:AV}
  (hc:∀x,(c x).length=1) (q:ρ a=.agg (l.flatMap c)) (z:ρ b=.at (.int k i)) (C:P.underlying t=some (.array l.length e)) (hs:fW P e=some 1) (D:Bj P e=some false) (h:inR i l.length=true) (E:c (gt l i)=[A]):
  evalOp P ρ H nid ⟨dst,.index t a b,ty,pos,after,g⟩=some (.pure A):=by
 show ct.ofP (xi P t (ρ a) (ρ b))=_;have j:(decide (0<=i)&&decide (i<(l.length:Int)))=true:=h;have e1:(l.flatMap c)[i.toNat*1]?=some A:=bb (l:=l) hc (i:=i.toNat) (k:=0) (aN h) (by omega) (by omega) (by have:c (l.getD i.toNat default)=[A]:=E;rw[this];rfl);unfold xi;rw[q,z,C];simp only[Ba,hs,j,qF,D,e1];rfl
def Dc(x:Int):List Int->List Int
 |[]=>[x]
 |y::l=>if x<=y then x::y::l else y::Dc x l
def sI:List Int->List Int
 |[]=>[]
 |x::l=>Dc x (sI l)
end Go.L


set_option linter.all false
namespace Go.Eng
open Go Go.RowKit
variable[Dr]
theorem FE{k:IntKind}{xs:List Int}{j:Int}(h:inR j xs.length=true):(xs.flatMap (iC k))[j.toNat]?=some (.at (.int k (gt xs j))):=
 bb (c:=iC k) (es:=1) (i:=j.toNat) (k:=0) (aR k) (aN h) (by omega) (by omega) rfl
theorem sf{k:IntKind}{cs:List AV}{xs:List Int}{j:Int}{o kk:Nat}(h:inR j xs.length=true)(z:o=kk+j.toNat*1)(C:(cs.drop kk).take xs.length=xs.flatMap (iC k)):cs[o]?=some (.at (.int k (gt xs j))):=by
 have h1:=aN h;have q:=FE (k:=k) h;rw[<-C,List.getElem?_take,if_pos h1,List.getElem?_drop]at q;rw[z,Nat.mul_one];exact q
section
variable{α:Type}{c:α->List AV}{es:Nat}{l:List α}
theorem Dk[Inhabited α](hc:∀x,(c x).length=es){i kk off:Nat}{k:IntKind}{xs:List Int}{j:Int}(hi:i<l.length)(q:inR j xs.length=true)(C:off=i*es+kk+j.toNat*1)(hm:kk+xs.length<=es)
  (z:((c (l.getD i default)).drop kk).take xs.length=xs.flatMap (iC k)):(l.flatMap c)[off]?=some (.at (.int k (gt xs j))):=by
 have h1:=aN q;exact bb hc (k:=kk+j.toNat) hi (by omega) (by omega) (sf q (by omega) z)
theorem FY[Inhabited α](hc:∀x,(c x).length=es){i:Int}{off:Nat}(h:inR i l.length=true)(E:off=i.toNat*es)(w:World)(mu:Nat->Prop)(π:List (Option PB))(u:Value)(C:Rv w mu π (.pp (l.flatMap c) off) u):Rv w mu π (.pp (c (gt l i)) 0) u:=by
 obtain⟨b,o,rfl,h1,D⟩:=C;have hp:=yS (l:=l) hc (i:=i.toNat) (j:=off) (k:=0) (n:=es) (aN h) (by omega) (by omega);rw[List.drop_zero,List.take_of_length_le (l:=c (l.getD i.toNat default)) (by rw[hc];exact Nat.le_refl _)]at hp;have z:=RvC.take es _ _ _ (RvC.drop off _ _ _ D);rw[hp]at z;refine⟨b,o+off,by rw[Nat.add_zero],fun q=>h1 fun he=>q ?_,z⟩;have:(c (gt l i))=((l.flatMap c).drop off).take es:=hp.symm;rw[this,he];simp
theorem Sn.to{H:List Blk}{ok:Nat->Bool}{A q j:AV}(h:Sn H ok A q)(k:∀(w:World) (mu:Nat->Prop) (π:List (Option PB)) (u:Value),Rv w mu π q u->Rv w mu π j u):Sn H ok A j:=fun w mu mu' π v z hm C=>k _ _ _ _ (h w mu mu' π v z hm C)
theorem Sn.ppE[Inhabited α]{H:List Blk}{ok:Nat->Bool}(hc:∀x,(c x).length=es){i:Int}{off:Nat}(h:inR i l.length=true)(j:off=i.toNat*es):Sn H ok (.pp (l.flatMap c) off) (.pp (c (gt l i)) 0):=(Sn.pure rfl).to (FY hc h j)
end
def vS(k:IntKind)(x y:Int):Int:=af k (x*2^(min y.toNat k.bits))
section
variable{P:Program}{ρ:Operand->AV}{H:List Blk}{nid:Nat}{dst:Option Tmp}{ty t u:TypeId}{pos:String}{after:Array Edge}{g:Option (Nat×Bool)}{a b:Operand}{k k':IntKind}{x y:Int}
theorem BM{op:BinOp}{v:Value}(h:jf P (do eqGuard op t a b (.int k x) (.int k' y);binOp op t (.int k x) (.int k' y))=some v)(hi:uh op k x y=none):rI P op t a b (.at (.int k x)) (.at (.int k' y))=some (.at v):=by
 unfold rI;simp only[hi];cases IntKind.tJ k k'<;>simp only[sZ,toV,h]
theorem Gj(j:ρ a=.at (.int k x))(q:ρ b=.at (.int k' y))(h:decide (0<=y)=true):evalOp P ρ H nid ⟨dst,.binOp .shl t a b u,ty,pos,after,g⟩=some (.pure (.at (.int k (vS k x y)))):=by
 show ct.ofP (rI P .shl t a b (ρ a) (ρ b))=_;rw[j,q,BM (v:=.int k (vS k x y)) ?_ rfl];rfl;have z:¬y<0:=by have:=dcT h;omega
 simp[eqGuard,binOp,Op.shift,z,vS,ke];rfl
end
theorem CQ.nh{K:Nat}{P:Program}{k:List Fr}{F:X->St->Prop}{d:Code}{s:List AV}{h:List Blk}(j:List Nat)(q:List Blk)(hk:CQ K P (.c d::k) F .normal ⟨qy j s 0,q⟩)(e2:h=q:=by kernel_rfl):CQ K P (.c d::k) F .normal ⟨s,h⟩:=CQ.norm j rfl e2 hk
def xC(s:List AV):List (Nat×AV)->List AV
 |[]=>s
 |(i,x)::q=>xC (s.set i x) q
theorem CQ.r4{K:Nat}{P:Program}{k:List Fr}{F:X->St->Prop}{d:Code}{s:List AV}{h:List Blk}{i:Nat}{l:List Oper}(G:rq P)(j:List Nat)(q:List (Nat×AV))(hk:CQ K P (.c d::k) F .normal ⟨xC (qy j s 0) q,h⟩)(e:Bl P l s h (j++q.map (·.1))=some ⟨xC (qy j s 0) q,h⟩:=by kernel_rfl):CQ K P (.c (.region i l.toArray false)::.c d::k) F .normal ⟨s,h⟩:=CQ.rn G _ _ _ hk e
theorem CQ.r5{K:Nat}{P:Program}{k:List Fr}{F:X->St->Prop}{d:Code}{s:List AV}{h:List Blk}{i:Nat}{l:List Oper}(G:rq P)(j:List Nat)(q:List (Nat×AV))(z:List Blk)(hk:CQ K P (.c d::k) F .normal ⟨xC (qy j s 0) q,z⟩)(e:Bl P l s h (j++q.map (·.1))=some ⟨xC (qy j s 0) q,z⟩:=by kernel_rfl):CQ K P (.c (.region i l.toArray false)::.c d::k) F .normal ⟨s,h⟩:=CQ.rn G _ _ _ hk e
theorem oi{α:Type}{x y:α}(h:some x=some y):x=y:=Option.some.inj h
theorem tr{α:Type}{x y z:α}(h:y=z)(j:x=y:=by kernel_rfl):x=z:=j.trans h
theorem eB{x:Option ct}{e b:Bool}(h:e=b)(j:x=some (.pure (.at (.bool e))):=by kernel_rfl):x=some (.pure (.at (.bool b))):=by rw[j,h]
section
variable{P:Program}{call:gi}{ops rest:List Oper}{o:Oper}{s:List AV}{h:List Blk}{K:List AV->List Blk->Prop}{KT:List AV->List Blk->List Ent->Prop}
theorem EVO.pk{v:AV}(he:evalOp P (evA s) h h.length o=some (.pure v))(hk:EVO P call ops rest (iL s o.dst v) h K)(hw:ef ops o s=some true:=by kernel_rfl):EVO P call ops (o::rest) s h K:=EVO.pure hw he hk
theorem EVO.ek{v:AV}{ws:List (Nat×Blk)}(he:evalOp P (evA s) h h.length o=some (.eff v ws))(hk:EVO P call ops rest (iL s o.dst v) (bj h ws) K)(hw:ef ops o s=some true:=by kernel_rfl):EVO P call ops (o::rest) s h K:=EVO.eff hw he hk
theorem EVT.pk{v:AV}(he:evalOp P (evA s) h h.length o=some (.pure v))(hk:EVT P call ops rest (iL s o.dst v) h (fun q z es=>KT q z (uQ o s h v []::es)))(hw:ef ops o s=some true:=by kernel_rfl)(j:oH h.length (uQ o s h v [])=true:=by kernel_rfl):EVT P call ops (o::rest) s h KT:=EVT.pure hw he j hk
theorem EVT.ek{v:AV}{ws:List (Nat×Blk)}(he:evalOp P (evA s) h h.length o=some (.eff v ws))(hk:EVT P call ops rest (iL s o.dst v) (bj h ws) (fun q z es=>KT q z (uQ o s h v ws::es)))(hw:ef ops o s=some true:=by kernel_rfl)(j:oH h.length (uQ o s h v ws)=true:=by kernel_rfl):EVT P call ops (o::rest) s h KT:=EVT.eff hw he j hk
end
theorem oj{α:Type}{x y:α}(h:some x=some y):y=x:=(Option.some.inj h).symm
theorem gS{α:Type _}{a b:α}:(some a).getD b=a:=rfl
theorem bT(b:Bool):b=true\/b=false:=Bool.eq_false_or_eq_true b
theorem Sp{H:List Blk}{ok:Nat->Bool}{A:AV}{q j:List AV}(k:SnL H ok q j)(h:pT A=[]:=by exact rfl):SnL H ok (A::q) (A::j):=SnL.cons (Sn.pure h) k
abbrev kT3:List (Nat×Bool):=[(0,true),(1,true),(2,true)]
abbrev kF3:List (Nat×Bool):=[(0,false),(1,false),(2,false)]
theorem z1:0<1:=by decide
theorem kRf{p:Prop}(h:p:=by kernel_rfl):p:=h
theorem kRa{p q:Prop}(k:q)(h:p:=by kernel_rfl):p/\q:=⟨h,k⟩
theorem CQ.sh{K:Nat}{P:Program}{k:List Fr}{F:X->St->Prop}{x:X}{s:List AV}{h:List Blk}(c:CQ K P k F x ⟨s,h⟩):CQ K P k F x ⟨s,h⟩:=c
end Go.Eng

