import Derived.Test.YtlhnaccgnegjdaaGreatSc6Ness
import Derived.KernelRfl
import Derived.Scope
set_option linter.all false
namespace Go.Eng
open Go Go.RowKit
variable[Dr]
variable{K:Nat}{P:Program}
def fh(K:Nat)(P:Program)(f:FuncId)(args:List AV)(j:List Blk)(r:AV)(H1:List Blk):Prop:=
 ∀(out:Nat->Prop) (B:Nat->Prop) (w:World) (π:List (Option PB)) (vs:List Value),Inv out B w π j->RvL w (aG out π j) π args vs->
  Calls P f vs.toArray w fun e w'=>∃u π',e=.returned u/\EK K B w w' (aG out π j) (aG out π' H1) π π'/\Inv out B w' π' H1/\Rv w' (aG out π' H1) π' r u
theorem Gl{w:World}{mu:Nat->Prop}{π:List (Option PB)}:∀{vs:List AV} {u:Value},Rv w mu π (jg vs) u->∃l:List Value,RvL w mu π vs l/\∀(w':World) (mu':Nat->Prop) (π':List (Option PB)) (us:List AV),RvL w' mu' π' us l->Rv w' mu' π' (jg us) u
 |[],u,h=>by
  obtain⟨a,rfl,h⟩:=h;have p:a.toList=[]:=h;refine⟨[],rfl,fun w' mu' π' us j=>?_⟩;cases us with
  |nil=>exact⟨a,rfl,p⟩
  |cons x us=>obtain⟨v,m,e,_⟩:=j;cases e
 |[v],u,h=>by
  refine⟨[u],⟨u,[],rfl,h,rfl⟩,fun w' mu' π' us j=>?_⟩;cases us with
  |nil=>cases j
  |cons x us=>
   obtain⟨q,m,e,h1,h2⟩:=j;cases e;cases us with
   |nil=>exact h1
   |cons y us=>obtain⟨_,_,e,_⟩:=h2;cases e
 |v1::v2::vs,u,h=>by
  obtain⟨a,rfl,h⟩:=h;refine⟨a.toList,h,fun w' mu' π' us j=>?_⟩;obtain⟨x1,l1,e1,_,x2,l2,e2,_⟩:=h;cases us with
  |nil=>rw[e1]at j;cases j
  |cons C us=>
   cases us with
   |nil=>
    obtain⟨z,D,e,_,h2⟩:=j;rw[e1]at e;cases e;rw[e2]at h2;cases h2
   |cons E us=>exact⟨a,rfl,j⟩
def Bi(K:Nat)(P:Program)(rs:List ResultVar)(us:List AV)(H1:List Blk):X->St->Prop
 |.exit _,_=>False
 |_,st=>∃vs,eC P st rs=some vs/\Wk K ⟨vs,st.heap⟩ ⟨us,H1⟩
theorem Bi.ret{rs:List ResultVar}{us:List AV}{H1:List Blk}{st:St}(vs:List AV)(k:Wk K ⟨vs,st.heap⟩ ⟨us,H1⟩)(h:eC P st rs=some vs:=by kernel_rfl):Bi K P rs us H1 .ret st:=⟨vs,h,k⟩
theorem Bi.normal{rs:List ResultVar}{us:List AV}{H1:List Blk}{st:St}(vs:List AV)(k:Wk K ⟨vs,st.heap⟩ ⟨us,H1⟩)(h:eC P st rs=some vs:=by kernel_rfl):Bi K P rs us H1 .normal st:=⟨vs,h,k⟩
theorem fh.body(G:qJ P){f:FuncId}{fn:Func}(I:P.funcs[f]?=some fn){c:Code}(hb:fn.body=some c){args us:List AV}{p H1:List Blk}{s:List AV}{rs:List ResultVar}(hs:args++q0 (fn.ntmps-args.length)=s)(q:fn.results.toList=rs)
  (h:CQ K P [.c c] (Bi K P rs us H1) .normal ⟨s,p⟩):fh K P f args p (jg us) H1:=by
 intro out B w π vs J ha;subst hs;subst q;refine calls_of_wp I hb ?_;have hlen:=RvL.length _ _ ha;have M:Rep out B w π ⟨args++q0 (fn.ntmps-args.length),p⟩ {tmps:=vs.toArray++Array.replicate (fn.ntmps-vs.toArray.size) undef,defers:=[]}:=by
  refine⟨rfl,?_,J⟩;simp only[Array.toList_append,Array.toList_replicate,List.size_toArray,hlen];refine RvL.append _ _ _ _ ha ?_;refine RvL.oA _ _ (by simp[q0]) fun i x y h1 h2=>?_
  have:=List.mem_of_getElem? h1;simp[q0]at this;rw[this.2];trivial
 refine h out B w π _ _ M fun x st' a' w' π' z m N=>?_
 have fin:∀j,eC P st' fn.results.toList=some j->Wk K ⟨j,st'.heap⟩ ⟨us,H1⟩->∃u,(results fn a'.tmps).run P w'=.ok u w'/\∃D π2,(Ending.returned u)=.returned D/\EK K B w w' (aG out π p) (aG out π2 H1) π π2/\Inv out B w' π2 H1/\Rv w' (aG out π2 H1) π2 (jg us) D:=by
  intro j O C;obtain⟨u,r1,r2⟩:=nc m O;obtain⟨l,l1,l2⟩:=Gl r2;obtain⟨π2,E,T,U⟩:=C out B w' π' {tmps:=l.toArray,defers:=[]} ⟨rfl,l1,m.inv⟩;exact⟨u,r1,u,π2,rfl,N.trans (EK.less T U),E.inv,l2 _ _ _ _ E.slots⟩
 cases x with
 |normal=>obtain⟨j,h1,h2⟩:=z;exact⟨m.defers,fin j h1 h2⟩
 |ret=>obtain⟨j,h1,h2⟩:=z;exact⟨m.defers,fin j h1 h2⟩
 |exit id=>exact z.elim
theorem eD.CR{w:World}{mu:Nat->Prop}{π:List (Option PB)}{p:PB}{x:Blk}(h:x.isLive=false):eD w mu π p x:=by
 cases x with
 |dead=>trivial
 |own cs=>cases h
 |fix cs=>cases h
 |map es=>cases h
 |iter m n seen=>cases h
 |rows rs=>cases h
set_option maxHeartbeats 1000000
theorem yk:∀(ws:List (Nat×Blk)) (H:List Blk),(∀q∈ws,q.1<H.length)->(aQ H ws).length=H.length
 |[],H,_=>rfl
 |(j,b)::ws,H,h=>by
  have p:=h (j,b) (by simp);have m:(upd H j b).length=H.length:=by rw[cZ (by omega),if_neg (by simp only at p;omega)]
  simp only[aQ];rw[yk ws (upd H j b) (fun q z=>by rw[m];exact h q (by simp[z])),m]
theorem tz:∀(ws:List (Nat×Blk)) (H:List Blk) (j:Nat),(∀q∈ws,q.1<H.length)->(∀b,(j,b)∉ws)->(aQ H ws)[j]?=H[j]?
 |[],H,_,_,_=>rfl
 |(i,b)::ws,H,j,h,m=>by
  have p:=h (i,b) (by simp);simp only at p;have z:(upd H i b).length=H.length:=by rw[cZ (by omega),if_neg (by omega)]
  simp only[aQ];rw[tz ws (upd H i b) j (fun q C=>by rw[z];exact h q (by simp[C])) (fun x hx=>m x (by simp[hx])),fA (by omega),if_neg];rintro rfl;exact m b (by simp)
theorem zA:∀(ws:List (Nat×Blk)) (H:List Blk) (j:Nat) (b:Blk),(∀q∈ws,q.1<H.length)->(ws.map (·.1)).Nodup->(j,b)∈ws->(aQ H ws)[j]?=some b
 |[],_,_,_,_,_,h=>by simp at h
 |(i,x)::ws,H,j,b,h,z,hm=>by
  have C:=h (i,x) (by simp);simp only at C;have D:(upd H i x).length=H.length:=by rw[cZ (by omega),if_neg (by omega)]
  have p:=List.nodup_cons.1 (by simpa using z:(i::ws.map (·.1)).Nodup);simp only[aQ];have m:∀q∈ws,q.1<(upd H i x).length:=fun q E=>by rw[D];exact h q (by simp[E])
  rcases List.mem_cons.1 hm with e|hm
  ·obtain⟨rfl,rfl⟩:=Prod.mk.inj e;rw[tz ws _ j m (fun y I=>p.1 (List.mem_map.2 ⟨(j,y),I,rfl⟩)),fA (by omega),if_pos rfl]
  ·exact zA ws _ j b m p.2 hm
theorem xB:∀(l:List (Nat×Bool)),qZ l=true->(l.map (·.1)).Nodup
 |[],_=>List.nodup_nil
 |(b,t)::l,h=>by
  simp only[qZ,Bool.and_eq_true]at h;obtain⟨h1,h2⟩:=h;have m:posOf l b 0=none:=by
   cases hb:posOf l b 0 with
   |none=>rfl
   |some c=>rw[hb]at h1;cases h1
  refine List.nodup_cons.2 ⟨fun hm=>?_,xB l h2⟩;obtain⟨q,p,he⟩:=List.mem_map.1 hm;obtain⟨j,z⟩:=List.getElem?_of_mem p;exact qI l b 0 m j q.2 (by rw[z];exact congrArg some (Prod.ext he rfl))
def yF(K:Nat)(keep:List (Nat×Bool))(n m:Nat):List Nat:=(keep.take K).map (·.1)++List.range' n m
def yl(ρ:Nat->Option Nat):List Nat->List Bool->List Blk->List (Nat×Blk)
 |j::m,t::p,x::xs=>(j,rfB ρ t x)::yl ρ m p xs
 |_,_,_=>[]
def wx:List (Nat×Bool)->List (Nat×Blk)
 |[]=>[]
 |(b,_)::l=>(b,.dead)::wx l
def CL(K:Nat)(keep:List (Nat×Bool))(n m:Nat)(j:List Bool)(H1:List Blk):List (Nat×Blk):=
 yl (fun k=>(yF K keep n m)[k]?) (yF K keep n m) j H1++wx (keep.drop K)
def xY:List Bool->List Blk->Prop
 |false::j,x::xs=>yo (some x)/\xY j xs
 |true::j,_::xs=>xY j xs
 |_,_=>True
theorem By(ρ:Nat->Option Nat):∀(m:List Nat) (p:List Bool) (xs:List Blk),m.length=xs.length->p.length=xs.length->(yl ρ m p xs).map (·.1)=m
 |[],[],[],_,_=>rfl
 |j::m,t::p,x::xs,h1,h2=>by simp only[yl,List.map_cons];rw[By ρ m p xs (by simpa using h1) (by simpa using h2)]
 |[],_::_,_,h1,h2=>by cases (List.eq_nil_of_length_eq_zero (by simpa using h1.symm));simp at h2
 |_::_,[],_,h1,h2=>by cases (List.eq_nil_of_length_eq_zero (by simpa using h2.symm));simp at h1
 |[],[],_::_,h1,_=>by simp at h1
 |_::_,_::_,[],h1,_=>by simp at h1
theorem A6(ρ:Nat->Option Nat):∀(m:List Nat) (p:List Bool) (xs:List Blk) (j:Nat) (b:Blk),(j,b)∈yl ρ m p xs->∃(k:Nat) (t:Bool) (x:Blk),m[k]?=some j/\p[k]?=some t/\xs[k]?=some x/\b=rfB ρ t x
 |[],_,_,_,_,h=>by simp[yl]at h
 |_::_,[],_,_,_,h=>by simp[yl]at h
 |_::_,_::_,[],_,_,h=>by simp[yl]at h
 |E::m,t::p,x::xs,j,b,h=>by
  simp only[yl,List.mem_cons,Prod.mk.injEq]at h;rcases h with⟨rfl,rfl⟩|h
  ·exact⟨0,t,x,rfl,rfl,rfl,rfl⟩
  ·obtain⟨k,q,z,h1,h2,C,D⟩:=A6 ρ m p xs j b h;exact⟨k+1,q,z,by simpa using h1,by simpa using h2,by simpa using C,D⟩
theorem yW:∀l:List (Nat×Bool),(wx l).map (·.1)=l.map (·.1)
 |[]=>rfl
 |(b,t)::l=>by simp only[wx,List.map_cons,yW l]
theorem y7:∀(l:List (Nat×Bool)) (j:Nat) (b:Blk),(j,b)∈wx l->b=.dead
 |[],_,_,h=>by simp[wx]at h
 |(i,t)::l,j,b,h=>by
  simp only[wx,List.mem_cons,Prod.mk.injEq]at h;rcases h with⟨_,rfl⟩|h
  ·rfl
  ·exact y7 l j b h
theorem wo:∀(j:List Bool) (xs:List Blk) (k:Nat) (x:Blk),xY j xs->j[k]?=some false->xs[k]?=some x->yo (some x)
 |[],_,k,x,_,h,_=>by simp at h
 |_::_,[],k,x,_,_,h=>by simp at h
 |false::j,y::xs,0,x,hp,_,h=>by simp at h;subst h;exact hp.1
 |false::j,y::xs,k+1,x,hp,h1,h2=>wo j xs k x hp.2 (by simpa using h1) (by simpa using h2)
 |true::j,y::xs,0,x,hp,h,_=>by simp at h
 |true::j,y::xs,k+1,x,hp,h1,h2=>wo j xs k x hp (by simpa using h1) (by simpa using h2)
theorem zh{H H':List Blk}{keep:List (Nat×Bool)}:∀(l:List (Nat×Bool)),(∀q∈l,H'[q.1]?=H[q.1]?)->rnH H' keep l=rnH H keep l
 |[],_=>rfl
 |(b,t)::l,h=>by
  simp only[rnH];rw[h (b,t) (by simp),zh l fun q j=>h q (by simp[j])]
theorem sz{H H':List Blk}:∀(l:List (Nat×Bool)),(∀q∈l,H'[q.1]?=H[q.1]?)->kI H l->kI H' l
 |[],_,_=>trivial
 |(b,false)::l,h,hp=>⟨by rw[h (b,false) (by simp)];exact hp.1,sz l (fun q j=>h q (by simp[j])) hp.2⟩
 |(b,true)::l,h,hp=>sz l (fun q j=>h q (by simp[j])) hp
theorem xN{f:FuncId}{args a6:List AV}{H H0 H1:List Blk}{r v:AV}{ws:List (Nat×Blk)}{m:Nat}{rd:List Nat}(K:Nat)(keep:List (Nat×Bool))(ts:List Bool)(c3:fh K P f a6 H0 r H1)
  (c9:kI H keep) (k0:xY ts H1) (e8:H1.length=K+m) (e9:ts.length=H1.length)
  (hn:qZ keep=true:=by kernel_rfl) (g0:keep.all (fun q=>Nat.blt q.1 H.length)=true:=by kernel_rfl) (hK:Nat.ble K keep.length=true:=by kernel_rfl)
  (g6:rnL keep args=a6:=by kernel_rfl) (hH:rnH H keep keep=H0:=by kernel_rfl)
  (hv:rfA (fun k=>(yF K keep H.length m)[k]?) r=v:=by kernel_rfl) (k6:CL K keep H.length m ts H1=ws:=by kernel_rfl) (k7:keep.map (·.1)=rd:=by kernel_rfl):iK P f args H (.loc v ws rd m):=by
 intro H' hlen k8 out B w π vs T hπ ha;subst k7 hH g6;have hK:K<=keep.length:=lbT hK;have Y:∀q∈keep,q.1<H.length:=fun q O=>by have:=List.all_eq_true.1 g0 q O;simpa [Nat.blt_eq]using this
 have c4:∀q∈keep,H'[q.1]?=H[q.1]?:=fun q O=>k8 q.1 (List.mem_map.2 ⟨q,O,rfl⟩) (Y q O)
 rw[<-zh keep c4]at c3;have b5:=sz keep c4 c9;have c5:=xB keep hn;have hl:=T.len;obtain⟨π0,hπ0⟩:∃π0:List (Option PB),π0=keep.map fun q=>(π[q.1]?).getD none:=⟨_,rfl⟩
 have hπm:∀b c p,posOf keep b 0=some c->π[b]?=some (some p)->π0[c]?=some (some p):=by
  intro b c p h1 h2;obtain⟨j,t,rfl,E⟩:=vC keep b 0 c h1;rw[hπ0,List.getElem?_map,Nat.zero_add,E];simp[h2]
 have back:∀{j:Nat} {x:Blk} {p:PB},(rnH H' keep keep)[j]?=some x->x.isLive=true->π0[j]?=some (some p)->∃b t y,keep[j]?=some (b,t)/\H'[b]?=some y/\rfB (fun b=>posOf keep b 0) t y=x/\π[b]?=some (some p):=by
  intro j x p h1 h2 E;obtain⟨b,t,y,g1,D,C⟩:=zE keep j x h1 h2;refine⟨b,t,y,g1,D,C,?_⟩;rw[hπ0,List.getElem?_map,g1]at E;simp only[Option.map_some,Option.some.injEq]at E;cases hb:π[b]? with
  |none=>rw[hb]at E;cases E
  |some q=>rw[hb]at E;simp only[Option.getD_some]at E;rw[E]
 have a7:∀{j b:Nat} {t:Bool},keep[j]?=some (b,t)->b∈keep.map (·.1):=fun h=>List.mem_map.2 ⟨_,List.mem_of_getElem? h,rfl⟩
 obtain⟨a0,N⟩:∃o:Nat->Prop,o=fun b=>out b\/∃(i:Nat) (x:Blk) (p:PB),H'[i]?=some x/\x.fQ=true/\i∉keep.map (·.1)/\π[i]?=some (some p)/\x.owns p b:=⟨_,rfl⟩
 obtain⟨Q0,a8⟩:∃Q:Nat->Prop,Q=fun b=>b<w.heap.size/\¬∃(k:Nat) (x:Blk) (p:PB),(rnH H' keep keep)[k]?=some x/\x.isLive=true/\π0[k]?=some (some p)/\x.owns p b:=⟨_,rfl⟩
 have b6:∀b,aG a0 π0 (rnH H' keep keep) b->aG out π H' b:=by
  rintro b (ho|⟨j,x,p,e1,e2,e3,e4⟩)
  ·rw[N]at ho;rcases ho with ho|⟨i,x,p,g1,D,_,C,I⟩
   ·exact .inl ho
   ·exact .inr ⟨i,x,p,g1,D,C,I⟩
  ·obtain⟨b',t,y,g1,D,C,I⟩:=back e1 (Blk.cn e2) e3;exact .inr ⟨b',y,p,D,qV (by rw[C];exact e2),I,fJ (by rw[C];exact e4)⟩
 have g7:∀b,B b->Q0 b:=by
  intro b hb;rw[a8];refine⟨T.bound b hb,?_⟩;rintro⟨k,x,p,e1,e2,e3,e4⟩;obtain⟨b',t,y,g1,D,C,I⟩:=back e1 e2 e3;exact(T.baseO b' y p b D I (fJ (by rw[C];exact e4))).1 hb
 have h9:Inv a0 Q0 w π0 (rnH H' keep keep):=by
  refine⟨by rw[hπ0,List.length_map];exact(ud keep).symm,fun b hb=>by rw[a8]at hb;exact hb.1,?_,?_,?_,?_⟩
  ·intro b hb;rw[N]at hb;rcases hb with hb|⟨i,x,p,g1,D,C,I,g5⟩
   ·exact g7 b (T.out_lt b hb)
   ·rw[a8];refine⟨(T.baseO i x p b g1 I g5).2,?_⟩;rintro⟨k,y,q,e1,e2,e3,e4⟩;obtain⟨b',t,z,k1,k2,k3,k4⟩:=back e1 e2 e3;refine T.sepO i b' x z p q b ?_ g1 k2 I k4 D g5 (fJ (by rw[k3];exact e4));rintro rfl;exact C (a7 k1)
  ·intro j x p b0 e1 e2 e3;refine⟨fun O=>?_,?_⟩
   ·rw[a8]at O;exact O.2 ⟨j,x,p,e1,Blk.dU e3,e2,e3⟩
   ·obtain⟨b,t,y,g1,D,C,I⟩:=back e1 (Blk.dU e3) e2;exact(T.baseO b y p b0 D I (fJ (by rw[C];exact e3))).2
  ·intro j x p e1 e2;cases hx:x.isLive with
   |false=>exact eD.CR hx
   |true=>
    obtain⟨b,t,y,g1,D,C,I⟩:=back e1 hx e2;have k9:=T.ok b y p D I;subst C;exact Cz b6 hπm (fun ht=>by subst ht;have:=s9 keep b5 j b g1;rw[D]at this;exact this) k9
  ·intro i j x y p q b0 b7 e1 e2 e3 e4 e5 e6 e7;obtain⟨b,t,z,g1,D,C,I⟩:=back e1 (Blk.cn e5) e3;obtain⟨b',t',z',k1,k2,k3,k4⟩:=back e2 (Blk.dU e7) e4;refine T.sepO b b' z z' p q b0 ?_ D k2 I k4 (qV (by rw[C];exact e5)) (fJ (by rw[C];exact e6)) (fJ (by rw[k3];exact e7));rintro rfl;exact b7 (sZ keep hn i j b t t' g1 k1)
 refine(c3 a0 Q0 w π0 vs h9 (uf b6 hπm args _ ha)).mono ?_;rintro e w' ⟨u,π1,rfl,hE,U,hr⟩;obtain⟨J,a3⟩:∃J,J=yF K keep H.length m:=⟨_,rfl⟩;have l0:J.length=K+m:=by rw[a3];simp only[yF,List.length_append,List.length_map,List.length_take,List.length_range'];omega
 have b8:∀k,k<K->∃t,keep[k]?=some (J[k]?.getD 0,t)/\J[k]?=some (J[k]?.getD 0):=by
  intro k M;have b9:k<keep.length:=by omega
  refine⟨keep[k].2,?_⟩;have:J[k]?=some keep[k].1:=by
   rw[a3,yF,List.getElem?_append_left (by simp;omega),List.getElem?_map,List.getElem?_take,if_pos M,geT b9];rfl
  rw[this];simp[geT b9]
 have g8:∀k,K<=k->k<K+m->J[k]?=some (H.length+(k-K)):=by
  intro k h1 h2;rw[a3,yF,List.getElem?_append_right (by simp;omega)];have:(List.map (fun x:Nat×Bool=>x.1) (List.take K keep)).length=K:=by simp;omega
  rw[this,List.getElem?_range' (by omega)];simp
 have c6:J.Nodup:=by
  rw[a3,yF,List.nodup_append];refine⟨?_,List.nodup_range',?_⟩
  ·rw[List.map_take];exact List.Sublist.nodup (List.take_sublist _ _) c5
  ·rintro a g9 b hb rfl;obtain⟨q,O,rfl⟩:=List.mem_map.1 g9;have h1:=Y q (List.mem_of_mem_take O);have:=(List.mem_range'_1.1 hb).1;omega
 have h8:∀{i j c:Nat},J[i]?=some c->J[j]?=some c->i=j:=by
  intro i j c h1 h2;have hi:=aN h1;have hj:=aN h2;rw[geT hi]at h1;rw[geT hj]at h2;exact(List.getElem_inj c6).1 (by rw[Option.some.inj h1,Option.some.inj h2])
 have c0:(yl (fun k=>J[k]?) J ts H1).map (·.1)=J:=By _ _ _ _ (by rw[l0,e8]) e9;rw[<-a3]at hv;have c7:ws=yl (fun k=>J[k]?) J ts H1++wx (keep.drop K):=by rw[<-k6,CL,<-a3]
 have a9:ws.map (·.1)=J++(keep.drop K).map (·.1):=by rw[c7,List.map_append,c0,yW]
 have j0:(ws.map (·.1)).Nodup:=by
  rw[a9,List.nodup_append];refine⟨c6,?_,?_⟩
  ·rw[List.map_drop];exact List.Sublist.nodup (List.drop_sublist _ _) c5
  ·rintro a g9 b hb rfl;obtain⟨k,M⟩:=List.getElem?_of_mem g9;obtain⟨q,O,rfl⟩:=List.mem_map.1 hb;obtain⟨i,hi⟩:=List.getElem?_of_mem O;rw[List.getElem?_drop]at hi;by_cases a4:k<K
   ·obtain⟨t,g1,D⟩:=b8 k a4;rw[M]at g1;have:=sZ keep hn k (K+i) _ t q.2 g1 (by rw[hi];rfl);omega
   ·have j1:=aN M;rw[g8 k (by omega) (by omega)]at M;have:=Y q (List.mem_of_getElem? hi);have:=Option.some.inj M;omega
 have a2:∀q∈ws,q.1<H'.length:=by
  intro q O;have:q.1∈ws.map (·.1):=List.mem_map.2 ⟨q,O,rfl⟩;rw[a9]at this;rcases List.mem_append.1 this with h|h
  ·obtain⟨k,M⟩:=List.getElem?_of_mem h;by_cases a4:k<K
   ·obtain⟨t,g1,D⟩:=b8 k a4;rw[M]at g1;have:=Y _ (List.mem_of_getElem? g1);simp only[Option.getD_some]at this;omega
   ·have j1:=aN M;rw[g8 k (by omega) (by omega)]at M;have:=Option.some.inj M;omega
  ·obtain⟨x,hx,e⟩:=List.mem_map.1 h;have:=Y x (List.mem_of_mem_drop hx);omega
 obtain⟨H2,a5⟩:∃H2,H2=aQ H' ws:=⟨_,rfl⟩;have j2:H2.length=H'.length:=by rw[a5];exact yk ws H' a2
 have j3:∀{k j:Nat},J[k]?=some j->j<π.length:=by
  intro k j M;have:j∈ws.map (·.1):=by rw[a9];exact List.mem_append.2 (.inl (List.mem_of_getElem? M))
  obtain⟨q,O,rfl⟩:=List.mem_map.1 this;have:=a2 q O;omega
 have hex:∀j:Nat,∃o:Option PB,(∀k:Nat,J[k]?=some j->o=(π1[k]?).getD none)/\(j∉J->o=(π[j]?).getD none):=by
  intro j;by_cases hj:j∈J
  ·obtain⟨k,M⟩:=List.getElem?_of_mem hj;exact⟨(π1[k]?).getD none,fun k' b9=>by rw[h8 M b9],fun h=>(h hj).elim⟩
  ·exact⟨(π[j]?).getD none,fun k M=>(hj (List.mem_of_getElem? M)).elim,fun _=>rfl⟩
 obtain⟨g,hg⟩:=Classical.axiomOfChoice hex;obtain⟨π2,hπ2⟩:∃π2:List (Option PB),π2=(List.range π.length).map g:=⟨_,rfl⟩;have ol:π2.length=π.length:=by rw[hπ2];simp
 have oi:∀{k j:Nat},J[k]?=some j->π2[j]?=some ((π1[k]?).getD none):=by
  intro k j M;rw[hπ2,List.getElem?_map,List.getElem?_range (j3 M),Option.map_some,(hg j).1 k M]
 have oo:∀{j:Nat},j∉J->π2[j]?=π[j]?:=by
  intro j hj;by_cases hl:j<π.length
  ·rw[hπ2,List.getElem?_map,List.getElem?_range hl,Option.map_some,(hg j).2 hj,geT hl,Option.getD_some]
  ·rw[List.getElem?_eq_none (by omega),List.getElem?_eq_none (by omega)]
 have a1:∀(b c:Nat) (q:PB),J[b]?=some c->π1[b]?=some (some q)->π2[c]?=some (some q):=by
  intro b c q hb O;rw[oi hb,O];rfl
 have j4:∀(i:Nat) (p:PB),π[i]?=some (some p)->π2[i]?=some (some p):=by
  intro i p h;by_cases hi:i∈J
  ·obtain⟨k,M⟩:=List.getElem?_of_mem hi;by_cases a4:k<K
   ·obtain⟨t,g1,D⟩:=b8 k a4;rw[M]at g1;simp only[Option.getD_some]at g1;have:π0[k]?=some (some p):=by rw[hπ0,List.getElem?_map,g1];simp[h]
    exact a1 k i p M (hE.pin k a4 p this)
   ·have j1:=aN M;rw[g8 k (by omega) (by omega)]at M;obtain rfl:=Option.some.inj M;exact(hπ _ (by omega) (by omega) p h).elim
  ·rw[oo hi];exact h
 have key:∀(j:Nat) (x:Blk) (p:PB),H2[j]?=some x->x.isLive=true->π2[j]?=some (some p)->
   (j∉keep.map (·.1)/\H'[j]?=some x/\π[j]?=some (some p))\/∃(k:Nat) (t:Bool) (y:Blk),J[k]?=some j/\ts[k]?=some t/\H1[k]?=some y/\x=rfB (fun k=>J[k]?) t y/\π1[k]?=some (some p):=by
  intro j x p h1 h2 E;by_cases hj:∃b,(j,b)∈ws
  ·obtain⟨b,hb⟩:=hj;have e:=zA ws H' j b a2 j0 hb;rw[<-a5,h1]at e;cases e;rw[c7]at hb;rcases List.mem_append.1 hb with hb|hb
   ·obtain⟨k,t,y,g1,D,C,I⟩:=A6 _ _ _ _ _ _ hb;refine .inr ⟨k,t,y,g1,D,C,I,?_⟩;rw[oi g1]at E;cases M:π1[k]? with
    |none=>rw[M]at E;cases E
    |some q=>rw[M]at E;simpa using E
   ·have:=y7 _ _ _ hb;subst this;cases h2
  ·have hj:∀b,(j,b)∉ws:=fun b hb=>hj ⟨b,hb⟩
   rw[a5,tz ws H' j a2 hj]at h1;have b1:j∉ws.map (·.1):=fun hm=>by
    obtain⟨q,O,rfl⟩:=List.mem_map.1 hm;exact hj q.2 O
   rw[a9]at b1;have j5:j∉J:=fun h=>b1 (List.mem_append.2 (.inl h))
   have l1:j∉(keep.drop K).map (·.1):=fun h=>b1 (List.mem_append.2 (.inr h))
   refine .inl ⟨fun hm=>?_,h1,?_⟩
   ·obtain⟨q,O,rfl⟩:=List.mem_map.1 hm;obtain⟨i,hi⟩:=List.getElem?_of_mem O;by_cases l2:i<K
    ·obtain⟨t,g1,D⟩:=b8 i l2;rw[hi]at g1;have e:q.1=J[i]?.getD 0:=by rw[Option.some.inj g1]
     rw[<-e]at D;exact j5 (List.mem_of_getElem? D)
    ·refine l1 (List.mem_map.2 ⟨q,?_,rfl⟩);refine List.mem_of_getElem? (i:=i-K) ?_;rw[List.getElem?_drop,show K+(i-K)=i by omega];exact hi
   ·rw[oo j5]at E;exact E
 have b3:∀b,aG out π2 H2 b->aG a0 π1 H1 b:=by
  rintro b (h|⟨i,x,p,h1,h2,E,h4⟩)
  ·exact .inl (by rw[N];exact .inl h)
  ·rcases key i x p h1 (Blk.cn h2) E with⟨g1,D,C⟩|⟨k,t,y,g1,D,C,I,g5⟩
   ·exact .inl (by rw[N];exact .inr ⟨i,x,p,D,h2,g1,C,h4⟩)
   ·exact .inr ⟨k,y,p,C,qV (by rw[<-I];exact h2),g5,fJ (by rw[<-I];exact h4)⟩
 have c8:Ext B w w' (aG out π H') (aG out π2 H2) π π2:=by
  refine⟨fun b hb=>hE.low b (g7 b hb),hE.size,fun b hb l3=>?_,j4,hE.os,hE.tape,hE.output,hE.drawn⟩;obtain⟨k1,k2⟩:=hE.keep b hb (fun h=>l3 (b6 b h));exact⟨k1,fun h=>k2 (b3 b h)⟩
 have b4:∀{k:Nat} {y:Blk} {p:PB} {c:Nat},H1[k]?=some y->π1[k]?=some (some p)->y.owns p c->w.heap.size<=c\/∃(b:Nat) (z:Blk) (q:PB),b∈keep.map (·.1)/\H'[b]?=some z/\π[b]?=some (some q)/\z.owns q c:=by
  intro k y p c h1 h2 E;have c1:=(U.baseO k y p c h1 h2 E).1;rw[a8]at c1;by_cases g0:c<w.heap.size
  ·right;have c1:∃(k:Nat) (x:Blk) (q:PB),(rnH H' keep keep)[k]?=some x/\x.isLive=true/\π0[k]?=some (some q)/\x.owns q c:=Classical.byContradiction fun hc=>c1 ⟨g0,hc⟩
   obtain⟨k',x,q,e1,e2,e3,e4⟩:=c1;obtain⟨b,t,z,g1,D,C,I⟩:=back e1 e2 e3;exact⟨b,z,q,a7 g1,D,I,fJ (by rw[C];exact e4)⟩
  ·exact .inl (by omega)
 have same:∀{i:Nat} {x:Blk} {p:PB} {c:Nat},i∉keep.map (·.1)->H'[i]?=some x->π[i]?=some (some p)->x.owns p c->w'.heap[c]?=w.heap[c]?:=by
  intro i x p c h0 h1 h2 E;by_cases hm:x.fQ=true
  ·exact hE.low _ (h9.out_lt _ (by rw[N];exact .inr ⟨i,x,p,h1,hm,h0,h2,E⟩))
  ·refine(hE.keep c (T.baseO i x p c h1 h2 E).2 (fun h=>?_)).1;rcases b6 _ h with ho|⟨j,y,q,g1,D,C,I⟩
   ·exact(T.baseO i x p c h1 h2 E).1 (T.out_lt _ ho)
   ·by_cases j6:j=i
    ·subst j6;rw[h1]at g1;cases g1;exact hm D
    ·exact T.sepO j i y x q p c j6 g1 h1 C h2 D I E
 refine⟨u,π2,rfl,?_,?_,?_,?_⟩
 ·rw[<-a5];exact c8
 ·rw[<-a5];refine⟨by rw[ol,j2,hl],fun b hb=>Nat.lt_of_lt_of_le (T.bound b hb) hE.size,T.out_lt,?_,?_,?_⟩
  ·intro i x p c h1 h2 E;rcases key i x p h1 (Blk.dU E) h2 with⟨g1,D,C⟩|⟨k,t,y,g1,D,C,I,g5⟩
   ·have:=T.baseO i x p c D C E;exact⟨this.1,Nat.lt_of_lt_of_le this.2 hE.size⟩
   ·have j7:y.owns p c:=fJ (by rw[<-I];exact E);exact⟨fun hb=>(U.baseO k y p c C g5 j7).1 (g7 _ hb),(U.baseO k y p c C g5 j7).2⟩
  ·intro i x p h1 h2;cases hx:x.isLive with
   |false=>exact eD.CR hx
   |true=>
    rcases key i x p h1 hx h2 with⟨g1,D,C⟩|⟨k,t,y,g1,D,C,I,g5⟩
    ·exact eD.ext c8 (fun c hc=>same g1 D C hc) (T.ok i x p D C)
    ·subst I;exact Cz b3 a1 (fun ht=>by subst ht;exact wo ts H1 k y k0 D C) (U.ok k y p C g5)
  ·intro i j x y p q c b7 h1 h2 E h4 h5 h6 h7;rcases key i x p h1 (Blk.cn h5) E with⟨g1,D,C⟩|⟨k,t,z,g1,D,C,I,g5⟩
   ·rcases key j y q h2 (Blk.dU h7) h4 with⟨k1,k2,k3⟩|⟨k',t',z',k1,k2,k3,k4,k5⟩
    ·exact T.sepO i j x y p q c b7 D k2 C k3 h5 h6 h7
    ·have l4:z'.owns q c:=fJ (by rw[<-k4];exact h7);refine(U.baseO k' z' q c k3 k5 l4).1 (U.out_lt _ ?_);rw[N];exact .inr ⟨i,x,p,D,h5,g1,C,h6⟩
   ·have c0:z.fQ=true:=qV (by rw[<-I];exact h5);have c2:z.owns p c:=fJ (by rw[<-I];exact h6);rcases key j y q h2 (Blk.dU h7) h4 with⟨k1,k2,k3⟩|⟨k',t',z',k1,k2,k3,k4,k5⟩
    ·have l6:=(T.baseO j y q c k2 k3 h7).2;rcases b4 C g5 c2 with l7|⟨b,z2,q2,f1,f2,f3,f4⟩
     ·omega
     ·have l8:b≠j:=fun e=>k1 (e▸f1)
      by_cases j8:aG a0 π0 (rnH H' keep keep) c
      ·rcases j8 with ho|⟨l9,x2,p2,e1,e2,e3,e4⟩
       ·exact(U.baseO k z p c C g5 c2).1 (U.out_lt _ ho)
       ·obtain⟨b',t2,y2,m1,m2,m3,m4⟩:=back e1 (Blk.cn e2) e3;have j9:b'≠j:=fun e=>k1 (e▸a7 m1)
        exact T.sepO b' j y2 y p2 q c j9 m2 k2 m4 k3 (qV (by rw[m3];exact e2)) (fJ (by rw[m3];exact e4)) h7
      ·exact(hE.keep c (by omega) j8).2 (.inr ⟨k,z,p,C,c0,g5,c2⟩)
    ·have l5:k≠k':=by
      rintro rfl;rw[g1]at k1;exact b7 (Option.some.inj k1)
     exact U.sepO k k' z z' p q c l5 C k3 g5 k5 c0 c2 (fJ (by rw[<-k4];exact h7))
 ·rw[<-a5,<-hv];exact xm b3 a1 r u hr
 ·intro j hj;have b1:j∉J:=fun hm=>by
   have:j∈ws.map (·.1):=by rw[a9];exact List.mem_append.2 (.inl hm)
   obtain⟨q,O,rfl⟩:=List.mem_map.1 this;exact hj q.2 O
  exact oo b1
end Go.Eng


set_option linter.unusedVariables false
namespace Go.Eng
open Go Go.RowKit
variable[Dr]
noncomputable def u7(P:Program)(call:ef)(ops l:List Oper)(s:List AV)(h:List Blk):St:=match iv P call ops l ⟨s,h⟩with|some st=>st|none=>⟨s,h⟩
noncomputable def Bk(P:Program)(call:ef)(ops l:List Oper)(s:List AV)(h:List Blk):Bool:=match iv P call ops l ⟨s,h⟩with|some _=>true|none=>false
theorem AT{P:Program}{call:ef}{ops l:List Oper}{s:List AV}{h:List Blk}(e:Bk P call ops l s h=true):iv P call ops l ⟨s,h⟩=some (u7 P call ops l s h):=by
 unfold Bk at e;unfold u7;split at e
 ·rename_i st j;rw[j]
 ·cases e
section
variable{P:Program}{call:ef}{ops l:List Oper}{s:List AV}{h:List Blk}{K:List AV->List Blk->Prop}{KT:List AV->List Blk->List Ent->Prop}
theorem EVO.mu(n:Nat)(j:EVO P call ops (l.drop n) (u7 P call ops (l.take n) s h).slots (u7 P call ops (l.take n) s h).heap K)(e:Bk P call ops (l.take n) s h=true:=by kernel_rfl):EVO P call ops l s h K:=by
 have:=EVO.many (l1:=l.take n) (l2:=l.drop n) (s1:=(u7 P call ops (l.take n) s h).slots) (h1:=(u7 P call ops (l.take n) s h).heap) (by rw[AT e]) j;rwa[List.take_append_drop]at this
noncomputable def DC(P:Program)(call:ef)(ops l:List Oper)(s:List AV)(h:List Blk):St:=match gj P call ops l ⟨s,h⟩with|some (st,_)=>st|none=>⟨s,h⟩
noncomputable def Ht(P:Program)(call:ef)(ops l:List Oper)(s:List AV)(h:List Blk):Bool:=match gj P call ops l ⟨s,h⟩with|some _=>true|none=>false
theorem EVT.mu(n:Nat)(m:EVT P call ops (l.drop n) (DC P call ops (l.take n) s h).slots (DC P call ops (l.take n) s h).heap (fun p q es=>KT p q (FX P call ops (l.take n) s h++es)))(e:Ht P call ops (l.take n) s h=true:=by kernel_rfl):EVT P call ops l s h KT:=by
 have:=EVT.many (l1:=l.take n) (l2:=l.drop n) (s1:=(DC P call ops (l.take n) s h).slots) (h1:=(DC P call ops (l.take n) s h).heap) (by
  unfold Ht at e;unfold DC;split at e
  ·rename_i st j;rw[j]
  ·cases e) m
 rwa[List.take_append_drop]at this
end
section
variable{P:Program}{K:Nat}{k:List Fr}{F:X->St->Prop}{d:Code}{i:Nat}{l:List Oper}{s:List AV}{h:List Blk}
theorem CQ.ru(G:qJ P)(j:CQ K P k F .normal ⟨(u7 P (dz []) l l s h).slots,(u7 P (dz []) l l s h).heap⟩)(e:Bk P (dz []) l l s h=true:=by kernel_rfl):CQ K P (.c (.region i l.toArray false)::k) F .normal ⟨s,h⟩:=
 CQ.region G bz ⟨_,AT e,j⟩
noncomputable def Cg(P:Program)(l:List Oper)(s:List AV)(h:List Blk)(keep:List Nat):Option St:=match iv P (dz []) l l ⟨s,h⟩with|some st=>some ⟨rp keep st.slots 0,st.heap⟩|none=>none
theorem CQ.rn(G:qJ P)(keep:List Nat)(m:List AV)(p:List Blk)(q:CQ K P (.c d::k) F .normal ⟨m,p⟩)(e:Cg P l s h keep=some ⟨m,p⟩:=by kernel_rfl):CQ K P (.c (.region i l.toArray false)::.c d::k) F .normal ⟨s,h⟩:=by
 unfold Cg at e;split at e
 ·rename_i st j;obtain⟨s1,h1⟩:=st;exact CQ.region G bz ⟨_,j,CQ.wk ((Wk.mask keep).to (Option.some.inj e)) q⟩
 ·cases e
theorem CQ.g1(G:qJ P){f:FuncId}{args:List AV}{r:vh}(c:iK P f args h r)(he:EVO P (dz [{f:=f,args:=args,H:=h,r:=r:CE}]) l l s h (fun j m=>CQ K P k F .normal ⟨j,m⟩)):CQ K P (.c (.region i l.toArray false)::k) F .normal ⟨s,h⟩:=CQ.region G (x7 c) he
theorem CQ.t1(G:qJ P){f:FuncId}{args:List AV}{r:vh}(c:iK P f args h r)(he:EVT P (dz [{f:=f,args:=args,H:=h,r:=r:CE}]) l l s h (fun j m es=>vZ l es=true/\CQ K P k F .normal ⟨j,m⟩)):CQ K P (.c (.region i l.toArray true)::k) F .normal ⟨s,h⟩:=CQ.ei G (x7 c) he
end
theorem po{P:Program}{f:FuncId}{args:List AV}{H:List Blk}{r:vh}{L:List CE}(c:iK P f args H r)(cs:gU P (dz L)):gU P (dz ({f:=f,args:=args,H:=H,r:=r:CE}::L)):=fun g a H' j e=>by
 simp only[dz]at e;split at e
 ·rename_i m;cases e;obtain⟨rfl,rfl,rfl⟩:=m;exact c
 ·exact cs g a H' j e
theorem eI{P:Program}{f:FuncId}{args j:List AV}{H N H1:List Blk}{r:AV}(K m:Nat)(keep:List (Nat×Bool))(I:List Bool)(E:fh K P f j N r H1)
  (p:kI H keep) (J:xY I H1) (z:H1.length=K+m) (C:I.length=H1.length)
  (D:rnL keep args=j) (O:rnH H keep keep=N)
  (T:qZ keep=true:=by kernel_rfl) (M:keep.all (fun q=>Nat.blt q.1 H.length)=true:=by kernel_rfl) (U:Nat.ble K keep.length=true:=by kernel_rfl):
  iK P f args H (.loc (rfA (fun k=>(yF K keep H.length m)[k]?) r) (CL K keep H.length m I H1) (keep.map (·.1)) m):=
 xN K keep I E p J z C T M U D O rfl rfl rfl
theorem pKo{H:List Blk}{b:Nat}{l:List (Nat×Bool)}{α:Type}(c:α->List AV)(hc:∀x,cj (c x)=[])(e:List α)(rest:kI H l)(hb:H[b]?=some (.own (e.flatMap c)):=by kernel_rfl):kI H ((b,false)::l):=
 ⟨by rw[hb];exact bb hc e,rest⟩
def IA:Option Blk->List Nat
 |some (.own cs)=>cj cs
 |some (.fix cs)=>cj cs
 |some (.map es)=>ub es
 |some (.iter ..)=>[0]
 |some (.rows rs)=>tA rs
 |_=>[]
theorem pKc{H:List Blk}{b:Nat}{l:List (Nat×Bool)}(rest:kI H l)(hb:IA H[b]?=[]:=by kernel_rfl):kI H ((b,false)::l):=by
 refine⟨?_,rest⟩;generalize H[b]?=o at*;cases o with
 |none=>trivial
 |some x=>cases x<;>first|exact hb|trivial|(simp[IA]at hb;done)
theorem pKt{H:List Blk}{b:Nat}{l:List (Nat×Bool)}(rest:kI H l):kI H ((b,true)::l):=rest
theorem pK0{H:List Blk}:kI H []:=trivial
def slH(b e:Bool)(j m:Nat)(f:Nat->Nat->AV):Option bj:=bj.ofP (match (match b with|true=>some (j,m)|false=>none),e with|some (l,h),true=>some (f l h)|_,_=>none)
theorem G7{b:Bool}{j m:Nat}{f:Nat->Nat->AV}{v:AV}(h:b=true)(p:f j m=v):slH b true j m f=some (.pure v):=by subst h;subst p;rfl
theorem Wk.cut(b:Nat){K:Nat}{cs:List AV}{s:List AV}{h:List Blk}(m:Nat)(hb:h[b]?=some (.own cs)):Wk K ⟨s,h⟩ ⟨s,h.set b (.own (cs.take m))⟩:=fun out B w π a O=>by
 have D:=O.inv;have J:=aN hb;have g:∀{k:Nat} {x:Blk},(h.set b (.own (cs.take m)))[k]?=some x->(k=b/\x=.own (cs.take m))\/(k≠b/\h[k]?=some x):=by
  intro k x z;by_cases j:k=b
  ·subst j;rw[List.getElem?_set_self J]at z;exact .inl ⟨rfl,(Option.some.inj z).symm⟩
  ·rw[List.getElem?_set_ne (fun e=>j e.symm)]at z;exact .inr ⟨j,z⟩
 have old:∀{k:Nat} {x:Blk},(h.set b (.own (cs.take m)))[k]?=some x->∃y,h[k]?=some y/\y.isLive=x.isLive/\y.fQ=x.fQ/\(∀p b,x.owns p b->y.owns p b):=by
  intro k x z;rcases g z with⟨rfl,rfl⟩|⟨_,z⟩
  ·exact⟨_,hb,rfl,rfl,fun _ _ h=>h⟩
  ·exact⟨x,z,rfl,rfl,fun _ _ h=>h⟩
 have E:aG out π (h.set b (.own (cs.take m)))=aG out π h:=by
  funext c;apply propext;constructor
  ·rintro(hb|⟨k,x,p,h1,h2,C,I⟩)
   ·exact .inl hb
   ·obtain⟨y,M,_,Y,N⟩:=old h1;exact .inr ⟨k,y,p,M,by rw[Y];exact h2,C,N _ _ I⟩
  ·rintro(T|⟨k,x,p,h1,h2,C,I⟩)
   ·exact .inl T
   ·by_cases j:k=b
    ·subst j;rw[hb]at h1;cases h1;exact .inr ⟨k,.own (cs.take m),p,List.getElem?_set_self J,rfl,C,I⟩
    ·exact .inr ⟨k,x,p,by rw[List.getElem?_set_ne (fun e=>j e.symm)];exact h1,h2,C,I⟩
 refine⟨π,⟨O.defers,?_,?_⟩,fun b hb=>?_,pO.refl π⟩
 ·simp only[E];exact O.slots
 ·refine⟨by simpa using D.len,D.bound,D.out_lt,?_,?_,?_⟩
  ·intro k x p b h1 h2 C;obtain⟨y,M,_,_,N⟩:=old h1;exact D.baseO k y p b M h2 (N _ _ C)
  ·intro k x p h1 h2;simp only[E];rcases g h1 with⟨rfl,rfl⟩|⟨_,z⟩
   ·obtain⟨o1,o2⟩:=D.ok k _ p hb h2;exact⟨o1,RvC.take m cs _ _ o2⟩
   ·exact D.ok k x p z h2
  ·intro k l x y p q b U h1 h2 C I h5 h6 h7;obtain⟨x',x1,_,x3,x4⟩:=old h1;obtain⟨y',M,_,_,N⟩:=old h2;exact D.sepO k l x' y' p q b U x1 M C I (by rw[x3];exact h5) (x4 _ _ h6) (N _ _ h7)
 ·rw[E]at hb;exact hb
theorem Wk.Ji(i b:Nat){K:Nat}{α:Type}{c:α->List AV}{es:Nat}(hc:∀x,(c x).length=es)(l:List α)(k:Nat){s:List AV}{h:List Blk}(j:k<=l.length)(hs:vX s i=.hs b 0 k es)(hb:h[b]?=some (.own (l.flatMap c))):
  Wk K ⟨s,h⟩ ⟨s.set i (.hs b 0 (l.take k).length es),h.set b (.own ((l.take k).flatMap c))⟩:=
 ((Wk.cut b (k*es) hb).to (by rw[s8 hc])).trans (Wk.eK i (b:=b) (len:=k) (es:=es) (l.take k).length hs (by rw[List.length_take];omega))
theorem SnC.take{H:List Blk}{ok:Nat->Bool}{A j:List AV}(n:Nat)(h:SnC H ok A j):SnC H ok A (j.take n):=fun w mu mu' π b o m hm p=>RvC.take n _ _ _ (h w mu mu' π b o m hm p)
theorem Sn.hsk{H:List Blk}{ok:Nat->Bool}{b es:Nat}{α:Type}{c:α->List AV}{l:List α}{k:Nat}(hc:∀x,(c x).length=es)(hp:∀x,cj (c x)=[])(m:k<=l.length)(j:ok b=true)
  (hb:H[b]?=some (.own (l.flatMap c))\/H[b]?=some (.fix (l.flatMap c))):Sn H ok (.hs b 0 k es) (slT c (l.take k)):=by
 have h:=Sn.hs (len:=k) (es:=es) j hb (SnC.take (k*es) (SnC.pure (bb hp l))) (fun h=>by subst h;simp);unfold slT;rw[<-s8 hc,List.length_take,Nat.min_eq_left m];exact h
attribute [irreducible] u7 Bk Cg DC Ht
end Go.Eng


set_option linter.unusedVariables false
namespace Go.Eng
open Go Go.RowKit
variable[Dr]
section
variable{P:Program}{call:ef}{ops rest:List Oper}{o:Oper}{s:List AV}{h:List Blk}{K:List AV->List Blk->Prop}{KT:List AV->List Blk->List Ent->Prop}{v:AV}{ws:List (Nat×Blk)}{f:FuncId}{args:List AV}{rd:List Nat}{n:Nat}
theorem EVO.ca(hc:call f args h=some (.loc v ws rd n))(j:EVO P call ops rest (gX s o.dst v) (aQ (h++jd n) ws) K)(hw:dj ops o s=some true:=by kernel_rfl)(he:evalOp P (evA s) h h.length o=some (.call f args):=by kernel_rfl):EVO P call ops (o::rest) s h K:=EVO.cal hw he hc j
theorem EVT.ca(hc:call f args h=some (.loc v ws rd n))(m:EVT P call ops rest (gX s o.dst v) (aQ (h++jd n) ws) (fun p q es=>KT p q (Fi o h v ws rd n::es)))(hw:dj ops o s=some true:=by kernel_rfl)(he:evalOp P (evA s) h h.length o=some (.call f args):=by kernel_rfl)(j:nU h.length (Fi o h v ws rd n)=true:=by kernel_rfl):EVT P call ops (o::rest) s h KT:=EVT.cal hw he hc j m
end
def py(P:Program)(h:List Blk)(F:ef):Prop:=gU P F
section
variable{P:Program}{h H:List Blk}{f:FuncId}{args:List AV}{r:vh}{L:List CE}
theorem ca1(c:iK P f args h r)(cs:py P h (dz L)):py P h (dz ({f:=f,args:=args,H:=h,r:=r:CE}::L)):=po c cs
theorem ca2(H:List Blk)(c:iK P f args H r)(cs:py P h (dz L)):py P h (dz ({f:=f,args:=args,H:=H,r:=r:CE}::L)):=po c cs
theorem ca3(c:iK P f args h r):py P h (dz [{f:=f,args:=args,H:=h,r:=r:CE}]):=po c bz
theorem ca4(H:List Blk)(c:iK P f args H r):py P h (dz [{f:=f,args:=args,H:=H,r:=r:CE}]):=po c bz
variable{K:Nat}{k:List Fr}{F:X->St->Prop}{i:Nat}{l:List Oper}{s:List AV}
theorem CQ.gn(G:qJ P){L:List CE}(c:py P h (dz L))(he:EVO P (dz L) l l s h (fun j m=>CQ K P k F .normal ⟨j,m⟩)):CQ K P (.c (.region i l.toArray false)::k) F .normal ⟨s,h⟩:=CQ.region G c he
theorem CQ.tn(G:qJ P){L:List CE}(c:py P h (dz L))(he:EVT P (dz L) l l s h (fun j m es=>vZ l es=true/\CQ K P k F .normal ⟨j,m⟩)):CQ K P (.c (.region i l.toArray true)::k) F .normal ⟨s,h⟩:=CQ.ei G c he
theorem ok0{r:AV}(j:aO P f args r)(hp:cj args=[]:=by kernel_rfl):iK P f args H (.loc r [] [] 0):=cM (l:=[]) (SnL.pure hp) j
theorem cf0{e:CE}(j:H=e.H:=by kernel_rfl):dz (e::L) e.f e.args H=some e.r:=DM j
theorem cfF{e:CE}(m:dz L f args H=some r)(j:Nat.beq f e.f=false:=by kernel_rfl):dz (e::L) f args H=some r:=wH (fun h _=>absurd h (fun x=>by rw[show Nat.beq f e.f=true from by rw[x];exact Nat.beq_refl _]at j;cases j)) m
theorem cfA{e:CE}(j:args=e.args->r=e.r)(m:dz L f args H=some r):dz (e::L) f args H=some r:=wH (fun _ h=>j h) m
end
theorem sv{α:Type}{p q:Option α}{a b:α}(hp:p=some a)(j:q=some b)(e:p=q):a=b:=Option.some.inj (hp.symm.trans (e.trans j))
section
variable{P:Program}{K:Nat}{k:List Fr}{F:X->St->Prop}{d:Code}{i:Nat}{l:List Oper}{s:List AV}{h:List Blk}
theorem CQ.r2(G:qJ P)(m:Nat)(q:List (Nat×AV))(j:List Blk)(p:CQ K P (.c d::k) F .normal ⟨mkS m 0 q,j⟩)(e:Cg P l s h (q.map (·.1))=some ⟨mkS m 0 q,j⟩:=by kernel_rfl):CQ K P (.c (.region i l.toArray false)::.c d::k) F .normal ⟨s,h⟩:=CQ.rn G _ _ _ p e
theorem CQ.r3(G:qJ P)(m:Nat)(q:List (Nat×AV))(j:CQ K P (.c d::k) F .normal ⟨mkS m 0 q,h⟩)(e:Cg P l s h (q.map (·.1))=some ⟨mkS m 0 q,h⟩:=by kernel_rfl):CQ K P (.c (.region i l.toArray false)::.c d::k) F .normal ⟨s,h⟩:=CQ.rn G _ _ _ j e
end
section
variable{α β:Type}{γ:Type}{δ:Type}
theorem bd2{x:Option α}{y:α->Option β}{f:(a:α)->β->Option γ}{r:γ}(h:bdO x (fun a=>bdO (y a) (f a))=some r):∃a,x=some a/\∃b,y a=some b/\f a b=some r:=by
 obtain⟨a,h1,h⟩:=bd h;obtain⟨b,h2,h⟩:=bd h;exact⟨a,h1,b,h2,h⟩
theorem bd3{x:Option α}{y:α->Option β}{z:α->β->Option γ}{f:(a:α)->(b:β)->γ->Option δ}{r:δ}(h:bdO x (fun a=>bdO (y a) (fun b=>bdO (z a b) (f a b)))=some r):∃a,x=some a/\∃b,y a=some b/\∃c,z a b=some c/\f a b c=some r:=by
 obtain⟨a,h1,b,h2,h⟩:=bd2 h;obtain⟨c,j,h⟩:=bd h;exact⟨a,h1,b,h2,c,j,h⟩
theorem gd2{a b:Bool}{t:Option α}{r:α}(h:gdO a (gdO b t)=some r):a=true/\b=true/\t=some r:=by
 obtain⟨h1,h⟩:=gd h;exact⟨h1,gd h⟩
theorem gd3{a b c:Bool}{t:Option α}{r:α}(h:gdO a (gdO b (gdO c t))=some r):a=true/\b=true/\c=true/\t=some r:=by
 obtain⟨h1,h⟩:=gd h;exact⟨h1,gd2 h⟩
end
theorem aO.bd{P:Program}(G:qJ P){f:FuncId}{fn:Func}(m:P.funcs[f]?=some fn){args:List AV}{r:AV}(rs:List ResultVar)
  (h:CQ 0 P [.c (fn.body.getD .skip)] (aP P rs r) .normal ⟨args++q0 (fn.ntmps-args.length),[]⟩) (hb:fn.body.isSome=true:=by kernel_rfl) (j:fn.results.toList=rs:=by kernel_rfl):aO P f args r:=
 aO.body G m (c:=fn.body.getD .skip) (by cases h1:fn.body with|none=>rw[h1]at hb;cases hb|some c=>rfl) rfl j h
theorem CQ.cd{P:Program}{K:Nat}{k:List Fr}{F:X->St->Prop}{st:St}{c:Operand}{a b:Code}{α:Type}{t:Bool}{x y:Option α}{r:α}(j:cdO t x y=some r)
  (h1:t=true->x=some r->CQ K P (.c a::k) F .normal st) (h2:t=false->y=some r->CQ K P (.c b::k) F .normal st) (m:evA st.slots c=.at (.bool t):=by kernel_rfl):CQ K P (.c (.cond c a b)::k) F .normal st:=
 CQ.cond m (fun h=>h1 h (cH h j)) (fun h=>h2 h (cG h j))
theorem CQ.app{P:Program}{K:Nat}{p:List Fr}{F Q:X->St->Prop}(ha:∀x st',Q x st'->CQ K P p F x st'):∀(m:List Fr) {x:X} {st:St},CQ K P m Q x st->CQ K P (m++p) F x st
 |[],_,_,h=>ha _ _ h
 |.c d::m,.normal,st,h=>SC.mono (show SC K P st d (CQ K P m Q)from h) fun x st' q=>CQ.app ha m q
 |.c d::m,.exit j,st,h=>CQ.app ha m (x:=.exit j) h
 |.c d::m,.ret,st,h=>CQ.app ha m (x:=.ret) h
 |.b i::m,.normal,st,h=>CQ.app ha m (x:=.normal) h
 |.b i::m,.ret,st,h=>CQ.app ha m (x:=.ret) h
 |.b i::m,.exit j,st,h=>by
  simp only[CQ,List.cons_append]at h ⊢;split at h
  ·exact CQ.app ha m h
  ·exact CQ.app ha m h
theorem CQ.FB{P:Program}{K:Nat}{k:List Fr}{F Q:X->St->Prop}{st:St}{a:Code}(h:CQ K P [.c a] Q .normal st)(ha:∀x st',Q x st'->CQ K P k F x st'):CQ K P (.c a::k) F .normal st:=CQ.app ha [.c a] h
theorem CQ.Jj{P:Program}{K:Nat}{k:List Fr}{F Q:X->St->Prop}{st:St}{a b:Code}(h:CQ K P [.c a,.c b] Q .normal st)(ha:∀x st',Q x st'->CQ K P k F x st'):CQ K P (.c a::.c b::k) F .normal st:=CQ.app ha [.c a,.c b] h
abbrev nS:AV:=.at (.slice none 0 0)
theorem CQ.scope{P:Program}{K:Nat}{k:List Fr}{F:X->St->Prop}{st:St}{c:Code}(h:CQ K P (.c c::k) F .normal st):CQ K P (.c (.scope c)::k) F .normal st:=fun out B w π act R m p=>
 wp_scope_straight (h out B w π act _ m fun x st' a' w' π' q j z=>by cases x<;>exact p _ st' a' w' π' q j z)
def G6{α:Type}(l:List α)(a:Nat)(ys:List α):List α:=(l.take a++ys++l.drop (a+ys.length)).take l.length
@[simp] theorem Im {α:Type} (l:List α) (a:Nat) (ys:List α):(G6 l a ys).length=l.length:=by
 unfold G6;simp only[List.length_take,List.length_append,List.length_drop];omega
def kz(K:Nat)(P:Program)(rs:List ResultVar)(us:List AV)(H1:List Blk):X->St->Prop:=fun x st=>∃T,Wk K st T/\Bi K P rs us H1 x T
theorem kz.ret{K:Nat}{P:Program}{rs:List ResultVar}{us:List AV}{H1:List Blk}{st:St}(vs:List AV)(k:Wk K ⟨vs,st.heap⟩ ⟨us,H1⟩)(h:eC P st rs=some vs:=by kernel_rfl):kz K P rs us H1 .ret st:=⟨st,Wk.refl st,Bi.ret vs k h⟩
theorem kz.normal{K:Nat}{P:Program}{rs:List ResultVar}{us:List AV}{H1:List Blk}{st:St}(vs:List AV)(k:Wk K ⟨vs,st.heap⟩ ⟨us,H1⟩)(h:eC P st rs=some vs:=by kernel_rfl):kz K P rs us H1 .normal st:=⟨st,Wk.refl st,Bi.normal vs k h⟩
theorem kz.wk{K:Nat}{P:Program}{rs:List ResultVar}{us:List AV}{H1:List Blk}{x:X}{st T:St}(hw:Wk K st T)(h:kz K P rs us H1 x T):kz K P rs us H1 x st:=by
 obtain⟨U,h1,h2⟩:=h;exact⟨U,hw.trans h1,h2⟩
theorem SC.Hw{K:Nat}{P:Program}{st:St}{c:Code}{Q:X->St->Prop}(h:SC K P st c (fun x st'=>∃T,Wk K st' T/\Q x T)):SC K P st c Q:=fun out B w π a R p q=>h out B w π a R p fun x st' a' w' π' j m z=>by
 obtain⟨T,hw,j⟩:=j;obtain⟨π2,g1,C,D⟩:=hw out B w' π' a' m;exact q x T a' w' π2 j g1 (z.trans (EK.less C D))
theorem fh.wz{K:Nat}{P:Program}(G:qJ P){f:FuncId}{fn:Func}(p:P.funcs[f]?=some fn){c:Code}(hb:fn.body=some c){args us:List AV}{m H1:List Blk}{s:List AV}{rs:List ResultVar}(hs:args++q0 (fn.ntmps-args.length)=s)(j:fn.results.toList=rs)
  (h:CQ K P [.c c] (kz K P rs us H1) .normal ⟨s,m⟩):fh K P f args m (jg us) H1:=fh.body G p hb hs j (SC.Hw h)
section
variable{K:Nat}
theorem RvC.IS{w:World}{mu:Nat->Prop}{π:List (Option PB)}{A m:AV}(p:∀v,Rv w mu π A v->Rv w mu π m v):∀(cs:List AV) (j b o:Nat),cs[j]?=some A->RvC w mu π cs b o->RvC w mu π (cs.set j m) b o
 |[],j,_,_,h,_=>by simp at h
 |c::cs,0,b,o,h,k=>by
  simp at h;subst h;obtain⟨⟨v,h1,h2,q⟩,z⟩:=k;exact⟨⟨v,h1,h2,p _ q⟩,z⟩
 |c::cs,j+1,b,o,h,k=>⟨k.1,RvC.IS p cs j b (o+1) (by simpa using h) k.2⟩
theorem Wk.Io(i j:Nat){A E:AV}{cs:List AV}{s:List AV}{h:List Blk}(hA:∀(out B:Nat->Prop) (w:World) (π:List (Option PB)) (v:Value),Inv out B w π h->Rv w (aG out π h) π A v->Rv w (aG out π h) π E v)(hb:h[i]?=some (.own cs))(hc:cs[j]?=some A):Wk K ⟨s,h⟩ ⟨s,h.set i (.own (cs.set j E))⟩:=fun out B w π a T=>by
 have C:=T.inv;have M:=aN hb;have g:∀{k:Nat} {x:Blk},(h.set i (.own (cs.set j E)))[k]?=some x->(k=i/\x=.own (cs.set j E))\/(k≠i/\h[k]?=some x):=by
  intro k x z;by_cases m:k=i
  ·subst m;rw[List.getElem?_set_self M]at z;exact .inl ⟨rfl,(Option.some.inj z).symm⟩
  ·rw[List.getElem?_set_ne (fun e=>m e.symm)]at z;exact .inr ⟨m,z⟩
 have old:∀{k:Nat} {x:Blk},(h.set i (.own (cs.set j E)))[k]?=some x->∃y,h[k]?=some y/\y.isLive=x.isLive/\y.fQ=x.fQ/\(∀p b,x.owns p b->y.owns p b):=by
  intro k x z;rcases g z with⟨rfl,rfl⟩|⟨_,z⟩
  ·exact⟨_,hb,rfl,rfl,fun _ _ h=>h⟩
  ·exact⟨x,z,rfl,rfl,fun _ _ h=>h⟩
 have I:aG out π (h.set i (.own (cs.set j E)))=aG out π h:=by
  funext b;apply propext;constructor
  ·rintro(hb|⟨k,x,p,h1,h2,D,J⟩)
   ·exact .inl hb
   ·obtain⟨y,N,_,y3,O⟩:=old h1;exact .inr ⟨k,y,p,N,by rw[y3];exact h2,D,O _ _ J⟩
  ·rintro(U|⟨k,x,p,h1,h2,D,J⟩)
   ·exact .inl U
   ·by_cases m:k=i
    ·subst m;rw[hb]at h1;cases h1;exact .inr ⟨k,.own (cs.set j E),p,List.getElem?_set_self M,rfl,D,J⟩
    ·exact .inr ⟨k,x,p,by rw[List.getElem?_set_ne (fun e=>m e.symm)];exact h1,h2,D,J⟩
 refine⟨π,⟨T.defers,?_,?_⟩,fun b hb=>?_,pO.refl π⟩
 ·simp only[I];exact T.slots
 ·refine⟨by simpa using C.len,C.bound,C.out_lt,?_,?_,?_⟩
  ·intro k x p b h1 h2 D;obtain⟨y,N,_,_,O⟩:=old h1;exact C.baseO k y p b N h2 (O _ _ D)
  ·intro k x p h1 h2;simp only[I];rcases g h1 with⟨rfl,rfl⟩|⟨_,z⟩
   ·obtain⟨o1,o2⟩:=C.ok k _ p hb h2;exact⟨o1,RvC.IS (fun v hv=>hA out B w π v C hv) cs j _ _ hc o2⟩
   ·exact C.ok k x p z h2
  ·intro k l x y p q b Y h1 h2 D J h5 h6 h7;obtain⟨x',x1,_,x3,x4⟩:=old h1;obtain⟨y',N,_,_,O⟩:=old h2;exact C.sepO k l x' y' p q b Y x1 N D J (by rw[x3];exact h5) (x4 _ _ h6) (O _ _ h7)
 ·rw[I]at hb;exact hb
theorem Wk.CP(i j:Nat){b len es:Nat}{cs cs':List AV}{s:List AV}{h:List Blk}(C:h[i]?=some (.own cs'))(hc:cs'[j]?=some (.hs b 0 len es))(hb:h[b]?=some (.fix cs))(hp:cj cs=[])(z:len=0->cs=[]):Wk K ⟨s,h⟩ ⟨s,h.set i (.own (cs'.set j (.sl true cs len)))⟩:=Wk.Io i j (fun out B w π v D E=>by
 rcases E with⟨rfl,rfl⟩|⟨p,a,cap,h1,rfl,h2,m,I⟩
 ·exact .inl ⟨rfl,rfl,z rfl,rfl⟩
 ·obtain⟨g1,J⟩:=Eg D b p cs hb h1;obtain⟨ab,M,N⟩:=a;simp only at m;subst m;by_cases q:0<cap
  ·obtain⟨e1,_⟩:=I q;cases e1;exact .inr (.inl ⟨_,_,cap,rfl,h2,fun _=>J,oD (fun _ h=>h) cs _ _ hp g1⟩)
  ·have:cs=[]:=z (by omega);subst this;exact .inr (.inl ⟨ab,M,cap,rfl,h2,fun h=>(h rfl).elim,trivial⟩)) C hc
end
end Go.Eng
namespace Go.L
open Go Go.Eng
variable[Dr]
theorem w7{γ:Type}{i:Int}{l:List γ}{j:Nat}{v:γ}(h:inR i l.length=true):inR i (l.set j v).length=true:=by rw[List.length_set];exact h
theorem Sn.hse{H:List Blk}{ok:Nat->Bool}{b len es:Nat}{cs cs':List AV}{α:Type}{l:List α}(e:l.length=len)(j:ok b=true)(hb:H[b]?=some (.own cs)\/H[b]?=some (.fix cs))(h:SnC H ok cs cs')(m:l.length=0->cs'=[]):Sn H ok (.hs b 0 len es) (.sl true cs' l.length):=by subst e;exact Sn.hs j hb h m
end Go.L


set_option linter.all false
namespace Go.Eng
open Go Go.RowKit
variable[Dr]
theorem Gs{k:IntKind}{xs:List Int}{j:Int}(h:inR j xs.length=true):(xs.flatMap (iC k))[j.toNat]?=some (.at (.int k (gt xs j))):=
 aM (c:=iC k) (es:=1) (i:=j.toNat) (k:=0) (aH k) (aE h) (by omega) (by omega) rfl
theorem qj{k:IntKind}{cs:List AV}{xs:List Int}{j:Int}{o kk:Nat}(h:inR j xs.length=true)(m:o=kk+j.toNat*1)(hx:(cs.drop kk).take xs.length=xs.flatMap (iC k)):cs[o]?=some (.at (.int k (gt xs j))):=by
 have h1:=aE h;have h2:=Gs (k:=k) h;rw[<-hx,List.getElem?_take,if_pos h1,List.getElem?_drop]at h2;rw[m,Nat.mul_one];exact h2
section
variable{α:Type}{c:α->List AV}{es:Nat}{l:List α}
theorem Sn.to{H:List Blk}{ok:Nat->Bool}{A m j:AV}(h:Sn H ok A m)(k:∀(w:World) (mu:Nat->Prop) (π:List (Option PB)) (u:Value),Rv w mu π m u->Rv w mu π j u):Sn H ok A j:=fun w mu mu' π v p hm q=>k _ _ _ _ (h w mu mu' π v p hm q)
end
section
variable{P:Program}{ρ:Operand->AV}{H:List Blk}{nid:Nat}{dst:Option Tmp}{ty t u:TypeId}{pos:String}{after:Array Edge}{g:Option (Nat×Bool)}{a b:Operand}{k k':IntKind}{x y:Int}
end
theorem CQ.nh{K:Nat}{P:Program}{k:List Fr}{F:X->St->Prop}{d:Code}{s:List AV}{h:List Blk}(j:List Nat)(m:List Blk)(p:CQ K P (.c d::k) F .normal ⟨rp j s 0,m⟩)(e2:h=m:=by kernel_rfl):CQ K P (.c d::k) F .normal ⟨s,h⟩:=CQ.norm j rfl e2 p
def xv(s:List AV):List (Nat×AV)->List AV
 |[]=>s
 |(i,x)::q=>xv (s.set i x) q
theorem CQ.r4{K:Nat}{P:Program}{k:List Fr}{F:X->St->Prop}{d:Code}{s:List AV}{h:List Blk}{i:Nat}{l:List Oper}(G:qJ P)(j:List Nat)(q:List (Nat×AV))(m:CQ K P (.c d::k) F .normal ⟨xv (rp j s 0) q,h⟩)(e:Cg P l s h (j++q.map (·.1))=some ⟨xv (rp j s 0) q,h⟩:=by kernel_rfl):CQ K P (.c (.region i l.toArray false)::.c d::k) F .normal ⟨s,h⟩:=CQ.rn G _ _ _ m e
theorem CQ.r5{K:Nat}{P:Program}{k:List Fr}{F:X->St->Prop}{d:Code}{s:List AV}{h:List Blk}{i:Nat}{l:List Oper}(G:qJ P)(j:List Nat)(q:List (Nat×AV))(m:List Blk)(p:CQ K P (.c d::k) F .normal ⟨xv (rp j s 0) q,m⟩)(e:Cg P l s h (j++q.map (·.1))=some ⟨xv (rp j s 0) q,m⟩:=by kernel_rfl):CQ K P (.c (.region i l.toArray false)::.c d::k) F .normal ⟨s,h⟩:=CQ.rn G _ _ _ p e
theorem oi{α:Type}{x y:α}(h:some x=some y):x=y:=Option.some.inj h
theorem tr{α:Type}{x y z:α}(h:y=z)(hx:x=y:=by kernel_rfl):x=z:=hx.trans h
theorem eB{x:Option bj}{e b:Bool}(h:e=b)(hx:x=some (.pure (.at (.bool e))):=by kernel_rfl):x=some (.pure (.at (.bool b))):=by rw[hx,h]
section
variable{P:Program}{call:ef}{ops rest:List Oper}{o:Oper}{s:List AV}{h:List Blk}{K:List AV->List Blk->Prop}{KT:List AV->List Blk->List Ent->Prop}
theorem EVO.pk{v:AV}(he:evalOp P (evA s) h h.length o=some (.pure v))(j:EVO P call ops rest (gX s o.dst v) h K)(hw:dj ops o s=some true:=by kernel_rfl):EVO P call ops (o::rest) s h K:=EVO.pure hw he j
theorem EVO.ek{v:AV}{ws:List (Nat×Blk)}(he:evalOp P (evA s) h h.length o=some (.eff v ws))(j:EVO P call ops rest (gX s o.dst v) (aQ h ws) K)(hw:dj ops o s=some true:=by kernel_rfl):EVO P call ops (o::rest) s h K:=EVO.eff hw he j
theorem EVT.pk{v:AV}(he:evalOp P (evA s) h h.length o=some (.pure v))(m:EVT P call ops rest (gX s o.dst v) h (fun p q es=>KT p q (uq o s h v []::es)))(hw:dj ops o s=some true:=by kernel_rfl)(j:nU h.length (uq o s h v [])=true:=by kernel_rfl):EVT P call ops (o::rest) s h KT:=EVT.pure hw he j m
theorem EVT.ek{v:AV}{ws:List (Nat×Blk)}(he:evalOp P (evA s) h h.length o=some (.eff v ws))(m:EVT P call ops rest (gX s o.dst v) (aQ h ws) (fun p q es=>KT p q (uq o s h v ws::es)))(hw:dj ops o s=some true:=by kernel_rfl)(j:nU h.length (uq o s h v ws)=true:=by kernel_rfl):EVT P call ops (o::rest) s h KT:=EVT.eff hw he j m
end
theorem oj{α:Type}{x y:α}(h:some x=some y):y=x:=(Option.some.inj h).symm
theorem gS{α:Type _}{a b:α}:(some a).getD b=a:=rfl
theorem bT(b:Bool):b=true\/b=false:=Bool.eq_false_or_eq_true b
theorem Sp{H:List Blk}{ok:Nat->Bool}{A:AV}{m j:List AV}(k:SnL H ok m j)(h:nv A=[]:=by exact rfl):SnL H ok (A::m) (A::j):=SnL.cons (Sn.pure h) k
abbrev kT3:List (Nat×Bool):=[(0,true),(1,true),(2,true)]
abbrev kT4:List (Nat×Bool):=[(0,true),(1,true),(2,true),(3,true)]
abbrev kF3:List (Nat×Bool):=[(0,false),(1,false),(2,false)]
theorem z1:0<1:=by decide
theorem kRf{p:Prop}(h:p:=by kernel_rfl):p:=h
theorem kRa{p q:Prop}(k:q)(h:p:=by kernel_rfl):p/\q:=⟨h,k⟩
theorem CQ.sh{K:Nat}{P:Program}{k:List Fr}{F:X->St->Prop}{x:X}{s:List AV}{h:List Blk}(c:CQ K P k F x ⟨s,h⟩):CQ K P k F x ⟨s,h⟩:=c
end Go.Eng

