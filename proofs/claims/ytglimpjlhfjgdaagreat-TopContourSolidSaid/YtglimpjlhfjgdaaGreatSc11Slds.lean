import Derived.Test.YtglimpjlhfjgdaaGreatSc6Slds
import Derived.KernelRfl
import Derived.Scope
set_option linter.all false
namespace Go.Eng
open Go Go.RowKit
variable[Dr]
variable{K:Nat}{P:Program}
def dr(K:Nat)(P:Program)(f:FuncId)(args:List AV)(j:List Blk)(r:AV)(H1:List Blk):Prop:=
 ∀(out:Nat->Prop) (B:Nat->Prop) (w:World) (π:List (Option PB)) (vs:List Value),Inv out B w π j->RvL w (aI out π j) π args vs->
  Calls P f vs.toArray w fun e w'=>∃u π',e=.returned u/\EK K B w w' (aI out π j) (aI out π' H1) π π'/\Inv out B w' π' H1/\Rv w' (aI out π' H1) π' r u
theorem Hj{w:World}{mu:Nat->Prop}{π:List (Option PB)}:∀{vs:List AV} {u:Value},Rv w mu π (gL vs) u->∃l:List Value,RvL w mu π vs l/\∀(w':World) (mu':Nat->Prop) (π':List (Option PB)) (us:List AV),RvL w' mu' π' us l->Rv w' mu' π' (gL us) u
 |[],u,h=>by
  obtain⟨a,rfl,h⟩:=h;have p:a.toList=[]:=h;refine⟨[],rfl,fun w' mu' π' us j=>?_⟩;cases us with
  |nil=>exact⟨a,rfl,p⟩
  |cons x us=>obtain⟨v,m,e,_⟩:=j;cases e
 |[v],u,h=>by
  refine⟨[u],⟨u,[],rfl,h,rfl⟩,fun w' mu' π' us j=>?_⟩;cases us with
  |nil=>cases j
  |cons x us=>
   obtain⟨q,m,e,h1,h2⟩:=j;cases e;cases us with
   |nil=>exact h1
   |cons y us=>obtain⟨_,_,e,_⟩:=h2;cases e
 |v1::v2::vs,u,h=>by
  obtain⟨a,rfl,h⟩:=h;refine⟨a.toList,h,fun w' mu' π' us j=>?_⟩;obtain⟨x1,l1,e1,_,x2,l2,e2,_⟩:=h;cases us with
  |nil=>rw[e1]at j;cases j
  |cons C us=>
   cases us with
   |nil=>
    obtain⟨z,D,e,_,h2⟩:=j;rw[e1]at e;cases e;rw[e2]at h2;cases h2
   |cons E us=>exact⟨a,rfl,j⟩
def Ae(K:Nat)(P:Program)(rs:List ResultVar)(us:List AV)(H1:List Blk):X->St->Prop
 |.exit _,_=>False
 |_,st=>∃vs,dx P st rs=some vs/\Wk K ⟨vs,st.heap⟩ ⟨us,H1⟩
theorem Ae.ret{rs:List ResultVar}{us:List AV}{H1:List Blk}{st:St}(vs:List AV)(k:Wk K ⟨vs,st.heap⟩ ⟨us,H1⟩)(h:dx P st rs=some vs:=by kernel_rfl):Ae K P rs us H1 .ret st:=⟨vs,h,k⟩
theorem Ae.normal{rs:List ResultVar}{us:List AV}{H1:List Blk}{st:St}(vs:List AV)(k:Wk K ⟨vs,st.heap⟩ ⟨us,H1⟩)(h:dx P st rs=some vs:=by kernel_rfl):Ae K P rs us H1 .normal st:=⟨vs,h,k⟩
theorem dr.body(G:oW P){f:FuncId}{fn:Func}(J:P.funcs[f]?=some fn){c:Code}(M:fn.body=some c){args us:List AV}{p H1:List Blk}{s:List AV}{rs:List ResultVar}(hs:args++pd (fn.ntmps-args.length)=s)(q:fn.results.toList=rs)
  (h:CQ K P [.c c] (Ae K P rs us H1) .normal ⟨s,p⟩):dr K P f args p (gL us) H1:=by
 intro out B w π vs N D;subst hs;subst q;refine calls_of_wp J M ?_;have hlen:=RvL.length _ _ D;have O:Rep out B w π ⟨args++pd (fn.ntmps-args.length),p⟩ {tmps:=vs.toArray++Array.replicate (fn.ntmps-vs.toArray.size) undef,defers:=[]}:=by
  refine⟨rfl,?_,N⟩;simp only[Array.toList_append,Array.toList_replicate,List.size_toArray,hlen];refine RvL.append _ _ _ _ D ?_;refine RvL.ml _ _ (by simp[pd]) fun i x y h1 h2=>?_
  have:=List.mem_of_getElem? h1;simp[pd]at this;rw[this.2];trivial
 refine h out B w π _ _ O fun x st' a' w' π' z m T=>?_
 have fin:∀j,dx P st' fn.results.toList=some j->Wk K ⟨j,st'.heap⟩ ⟨us,H1⟩->∃u,(results fn a'.tmps).run P w'=.ok u w'/\∃E π2,(Ending.returned u)=.returned E/\EK K B w w' (aI out π p) (aI out π2 H1) π π2/\Inv out B w' π2 H1/\Rv w' (aI out π2 H1) π2 (gL us) E:=by
  intro j U C;obtain⟨u,r1,r2⟩:=kJ m U;obtain⟨l,l1,l2⟩:=Hj r2;obtain⟨π2,I,Y,k3⟩:=C out B w' π' {tmps:=l.toArray,defers:=[]} ⟨rfl,l1,m.inv⟩;exact⟨u,r1,u,π2,rfl,T.trans (EK.less Y k3),I.inv,l2 _ _ _ _ I.slots⟩
 cases x with
 |normal=>obtain⟨j,h1,h2⟩:=z;exact⟨m.defers,fin j h1 h2⟩
 |ret=>obtain⟨j,h1,h2⟩:=z;exact⟨m.defers,fin j h1 h2⟩
 |exit id=>exact z.elim
theorem dy.DM{w:World}{mu:Nat->Prop}{π:List (Option PB)}{p:PB}{x:Blk}(h:x.isLive=false):dy w mu π p x:=by
 cases x with
 |dead=>trivial
 |own cs=>cases h
 |fix cs=>cases h
 |map es=>cases h
 |iter m n seen=>cases h
 |rows rs=>cases h
set_option maxHeartbeats 1000000
theorem wK:∀(ws:List (Nat×Blk)) (H:List Blk),(∀q∈ws,q.1<H.length)->(aN H ws).length=H.length
 |[],H,_=>rfl
 |(j,b)::ws,H,h=>by
  have p:=h (j,b) (by simp);have m:(upd H j b).length=H.length:=by rw[cz (by omega),if_neg (by simp only at p;omega)]
  simp only[aN];rw[wK ws (upd H j b) (fun q z=>by rw[m];exact h q (by simp[z])),m]
theorem sx:∀(ws:List (Nat×Blk)) (H:List Blk) (j:Nat),(∀q∈ws,q.1<H.length)->(∀b,(j,b)∉ws)->(aN H ws)[j]?=H[j]?
 |[],H,_,_,_=>rfl
 |(i,b)::ws,H,j,h,m=>by
  have hi:=h (i,b) (by simp);simp only at hi;have p:(upd H i b).length=H.length:=by rw[cz (by omega),if_neg (by omega)]
  simp only[aN];rw[sx ws (upd H i b) j (fun q z=>by rw[p];exact h q (by simp[z])) (fun x C=>m x (by simp[C])),eI (by omega),if_neg];rintro rfl;exact m b (by simp)
theorem yE:∀(ws:List (Nat×Blk)) (H:List Blk) (j:Nat) (b:Blk),(∀q∈ws,q.1<H.length)->(ws.map (·.1)).Nodup->(j,b)∈ws->(aN H ws)[j]?=some b
 |[],_,_,_,_,_,h=>by simp at h
 |(i,x)::ws,H,j,b,h,z,hm=>by
  have hi:=h (i,x) (by simp);simp only at hi;have C:(upd H i x).length=H.length:=by rw[cz (by omega),if_neg (by omega)]
  have p:=List.nodup_cons.1 (by simpa using z:(i::ws.map (·.1)).Nodup);simp only[aN];have m:∀q∈ws,q.1<(upd H i x).length:=fun q D=>by rw[C];exact h q (by simp[D])
  rcases List.mem_cons.1 hm with e|hm
  ·obtain⟨rfl,rfl⟩:=Prod.mk.inj e;rw[sx ws _ j m (fun y E=>p.1 (List.mem_map.2 ⟨(j,y),E,rfl⟩)),eI (by omega),if_pos rfl]
  ·exact yE ws _ j b m p.2 hm
theorem wR:∀(l:List (Nat×Bool)),oR l=true->(l.map (·.1)).Nodup
 |[],_=>List.nodup_nil
 |(b,t)::l,h=>by
  simp only[oR,Bool.and_eq_true]at h;obtain⟨h1,h2⟩:=h;have m:posOf l b 0=none:=by
   cases p:posOf l b 0 with
   |none=>rfl
   |some c=>rw[p]at h1;cases h1
  refine List.nodup_cons.2 ⟨fun hm=>?_,wR l h2⟩;obtain⟨q,z,he⟩:=List.mem_map.1 hm;obtain⟨j,C⟩:=List.getElem?_of_mem z;exact oX l b 0 m j q.2 (by rw[C];exact congrArg some (Prod.ext he rfl))
def xM(K:Nat)(keep:List (Nat×Bool))(n m:Nat):List Nat:=(keep.take K).map (·.1)++List.range' n m
def xo(ρ:Nat->Option Nat):List Nat->List Bool->List Blk->List (Nat×Blk)
 |j::m,t::p,x::xs=>(j,rfB ρ t x)::xo ρ m p xs
 |_,_,_=>[]
def vh:List (Nat×Bool)->List (Nat×Blk)
 |[]=>[]
 |(b,_)::l=>(b,.dead)::vh l
def C0(K:Nat)(keep:List (Nat×Bool))(n m:Nat)(j:List Bool)(H1:List Blk):List (Nat×Blk):=
 xo (fun k=>(xM K keep n m)[k]?) (xM K keep n m) j H1++vh (keep.drop K)
def wP:List Bool->List Blk->Prop
 |false::j,x::xs=>xd (some x)/\wP j xs
 |true::j,_::xs=>wP j xs
 |_,_=>True
theorem Al(ρ:Nat->Option Nat):∀(m:List Nat) (p:List Bool) (xs:List Blk),m.length=xs.length->p.length=xs.length->(xo ρ m p xs).map (·.1)=m
 |[],[],[],_,_=>rfl
 |j::m,t::p,x::xs,h1,h2=>by simp only[xo,List.map_cons];rw[Al ρ m p xs (by simpa using h1) (by simpa using h2)]
 |[],_::_,_,h1,h2=>by cases (List.eq_nil_of_length_eq_zero (by simpa using h1.symm));simp at h2
 |_::_,[],_,h1,h2=>by cases (List.eq_nil_of_length_eq_zero (by simpa using h2.symm));simp at h1
 |[],[],_::_,h1,_=>by simp at h1
 |_::_,_::_,[],h1,_=>by simp at h1
theorem Ak(ρ:Nat->Option Nat):∀(m:List Nat) (p:List Bool) (xs:List Blk) (j:Nat) (b:Blk),(j,b)∈xo ρ m p xs->∃(k:Nat) (t:Bool) (x:Blk),m[k]?=some j/\p[k]?=some t/\xs[k]?=some x/\b=rfB ρ t x
 |[],_,_,_,_,h=>by simp[xo]at h
 |_::_,[],_,_,_,h=>by simp[xo]at h
 |_::_,_::_,[],_,_,h=>by simp[xo]at h
 |j'::m,t::p,x::xs,j,b,h=>by
  simp only[xo,List.mem_cons,Prod.mk.injEq]at h;rcases h with⟨rfl,rfl⟩|h
  ·exact⟨0,t,x,rfl,rfl,rfl,rfl⟩
  ·obtain⟨k,q,z,h1,h2,C,D⟩:=Ak ρ m p xs j b h;exact⟨k+1,q,z,by simpa using h1,by simpa using h2,by simpa using C,D⟩
theorem yu:∀l:List (Nat×Bool),(vh l).map (·.1)=l.map (·.1)
 |[]=>rfl
 |(b,t)::l=>by simp only[vh,List.map_cons,yu l]
theorem yk:∀(l:List (Nat×Bool)) (j:Nat) (b:Blk),(j,b)∈vh l->b=.dead
 |[],_,_,h=>by simp[vh]at h
 |(i,t)::l,j,b,h=>by
  simp only[vh,List.mem_cons,Prod.mk.injEq]at h;rcases h with⟨_,rfl⟩|h
  ·rfl
  ·exact yk l j b h
theorem tZ:∀(j:List Bool) (xs:List Blk) (k:Nat) (x:Blk),wP j xs->j[k]?=some false->xs[k]?=some x->xd (some x)
 |[],_,k,x,_,h,_=>by simp at h
 |_::_,[],k,x,_,_,h=>by simp at h
 |false::j,y::xs,0,x,hp,_,h=>by simp at h;subst h;exact hp.1
 |false::j,y::xs,k+1,x,hp,h1,h2=>tZ j xs k x hp.2 (by simpa using h1) (by simpa using h2)
 |true::j,y::xs,0,x,hp,h,_=>by simp at h
 |true::j,y::xs,k+1,x,hp,h1,h2=>tZ j xs k x hp (by simpa using h1) (by simpa using h2)
theorem yv{H H':List Blk}{keep:List (Nat×Bool)}:∀(l:List (Nat×Bool)),(∀q∈l,H'[q.1]?=H[q.1]?)->rnH H' keep l=rnH H keep l
 |[],_=>rfl
 |(b,t)::l,h=>by
  simp only[rnH];rw[h (b,t) (by simp),yv l fun q j=>h q (by simp[j])]
theorem qd{H H':List Blk}:∀(l:List (Nat×Bool)),(∀q∈l,H'[q.1]?=H[q.1]?)->ik H l->ik H' l
 |[],_,_=>trivial
 |(b,false)::l,h,hp=>⟨by rw[h (b,false) (by simp)];exact hp.1,qd l (fun q j=>h q (by simp[j])) hp.2⟩
 |(b,true)::l,h,hp=>qd l (fun q j=>h q (by simp[j])) hp
theorem xa{f:FuncId}{args b3:List AV}{H H0 H1:List Blk}{r v:AV}{ws:List (Nat×Blk)}{m:Nat}{rd:List Nat}(K:Nat)(keep:List (Nat×Bool))(ts:List Bool)(e8:dr K P f b3 H0 r H1)
  (j2:ik H keep) (l7:wP ts H1) (j3:H1.length=K+m) (j4:ts.length=H1.length)
  (hn:oR keep=true:=by kernel_rfl) (j5:keep.all (fun q=>Nat.blt q.1 H.length)=true:=by kernel_rfl) (hK:Nat.ble K keep.length=true:=by kernel_rfl)
  (j6:rnL keep args=b3:=by kernel_rfl) (hH:rnH H keep keep=H0:=by kernel_rfl)
  (hv:rfA (fun k=>(xM K keep H.length m)[k]?) r=v:=by kernel_rfl) (l8:C0 K keep H.length m ts H1=ws:=by kernel_rfl) (l9:keep.map (·.1)=rd:=by kernel_rfl):gz P f args H (.loc v ws rd m):=by
 intro H' hlen n0 out B w π vs M hπ ha;subst l9 hH j6;have hK:K<=keep.length:=lbT hK;have O:∀q∈keep,q.1<H.length:=fun q J=>by have:=List.all_eq_true.1 j5 q J;simpa [Nat.blt_eq]using this
 have e9:∀q∈keep,H'[q.1]?=H[q.1]?:=fun q J=>n0 q.1 (List.mem_map.2 ⟨q,J,rfl⟩) (O q J)
 rw[<-yv keep e9]at e8;have c0:=qd keep e9 j2;have h8:=wR keep hn;have hl:=M.len;obtain⟨π0,hπ0⟩:∃π0:List (Option PB),π0=keep.map fun q=>(π[q.1]?).getD none:=⟨_,rfl⟩
 have hπm:∀b c p,posOf keep b 0=some c->π[b]?=some (some p)->π0[c]?=some (some p):=by
  intro b c p h1 h2;obtain⟨j,t,rfl,D⟩:=uB keep b 0 c h1;rw[hπ0,List.getElem?_map,Nat.zero_add,D];simp[h2]
 have back:∀{j:Nat} {x:Blk} {p:PB},(rnH H' keep keep)[j]?=some x->x.isLive=true->π0[j]?=some (some p)->∃b t y,keep[j]?=some (b,t)/\H'[b]?=some y/\rfB (fun b=>posOf keep b 0) t y=x/\π[b]?=some (some p):=by
  intro j x p h1 h2 D;obtain⟨b,t,y,g1,g2,g3⟩:=yY keep j x h1 h2;refine⟨b,t,y,g1,g2,g3,?_⟩;rw[hπ0,List.getElem?_map,g1]at D;simp only[Option.map_some,Option.some.injEq]at D;cases C:π[b]? with
  |none=>rw[C]at D;cases D
  |some q=>rw[C]at D;simp only[Option.getD_some]at D;rw[D]
 have b4:∀{j b:Nat} {t:Bool},keep[j]?=some (b,t)->b∈keep.map (·.1):=fun h=>List.mem_map.2 ⟨_,List.mem_of_getElem? h,rfl⟩
 obtain⟨T,I⟩:∃o:Nat->Prop,o=fun b=>out b\/∃(i:Nat) (x:Blk) (p:PB),H'[i]?=some x/\x.eN=true/\i∉keep.map (·.1)/\π[i]?=some (some p)/\x.owns p b:=⟨_,rfl⟩
 obtain⟨Q0,b5⟩:∃Q:Nat->Prop,Q=fun b=>b<w.heap.size/\¬∃(k:Nat) (x:Blk) (p:PB),(rnH H' keep keep)[k]?=some x/\x.isLive=true/\π0[k]?=some (some p)/\x.owns p b:=⟨_,rfl⟩
 have c3:∀b,aI T π0 (rnH H' keep keep) b->aI out π H' b:=by
  rintro b (ho|⟨j,x,p,e1,e2,U,e4⟩)
  ·rw[I]at ho;rcases ho with ho|⟨i,x,p,g1,g2,_,g3,g4⟩
   ·exact .inl ho
   ·exact .inr ⟨i,x,p,g1,g2,g3,g4⟩
  ·obtain⟨b',t,y,g1,g2,g3,g4⟩:=back e1 (Blk.bJ e2) U;exact .inr ⟨b',y,p,g2,oQ (by rw[g3];exact e2),g4,eM (by rw[g3];exact e4)⟩
 have j7:∀b,B b->Q0 b:=by
  intro b C;rw[b5];refine⟨M.bound b C,?_⟩;rintro⟨k,x,p,e1,e2,U,e4⟩;obtain⟨b',t,y,g1,g2,g3,g4⟩:=back e1 e2 U;exact(M.baseO b' y p b g2 g4 (eM (by rw[g3];exact e4))).1 C
 have k6:Inv T Q0 w π0 (rnH H' keep keep):=by
  refine⟨by rw[hπ0,List.length_map];exact(so keep).symm,fun b C=>by rw[b5]at C;exact C.1,?_,?_,?_,?_⟩
  ·intro b C;rw[I]at C;rcases C with C|⟨i,x,p,g1,g2,g3,g4,g5⟩
   ·exact j7 b (M.out_lt b C)
   ·rw[b5];refine⟨(M.baseO i x p b g1 g4 g5).2,?_⟩;rintro⟨k,y,q,e1,e2,U,e4⟩;obtain⟨b',t,z,k1,k2,k3,k4⟩:=back e1 e2 U;refine M.sepO i b' x z p q b ?_ g1 k2 g4 k4 g2 g5 (eM (by rw[k3];exact e4));rintro rfl;exact g3 (b4 k1)
  ·intro j x p b0 e1 e2 U;refine⟨fun J=>?_,?_⟩
   ·rw[b5]at J;exact J.2 ⟨j,x,p,e1,Blk.di U,e2,U⟩
   ·obtain⟨b,t,y,g1,g2,g3,g4⟩:=back e1 (Blk.di U) e2;exact(M.baseO b y p b0 g2 g4 (eM (by rw[g3];exact U))).2
  ·intro j x p e1 e2;cases hx:x.isLive with
   |false=>exact dy.DM hx
   |true=>
    obtain⟨b,t,y,g1,g2,g3,g4⟩:=back e1 hx e2;have n1:=M.ok b y p g2 g4;subst g3;exact Bo c3 hπm (fun ht=>by subst ht;have:=qR keep c0 j b g1;rw[g2]at this;exact this) n1
  ·intro i j x y p q b0 c4 e1 e2 U e4 e5 e6 e7;obtain⟨b,t,z,g1,g2,g3,g4⟩:=back e1 (Blk.bJ e5) U;obtain⟨b',t',z',k1,k2,k3,k4⟩:=back e2 (Blk.di e7) e4;refine M.sepO b b' z z' p q b0 ?_ g2 k2 g4 k4 (oQ (by rw[g3];exact e5)) (eM (by rw[g3];exact e6)) (eM (by rw[k3];exact e7));rintro rfl;exact c4 (qZ keep hn i j b t t' g1 k1)
 refine(e8 T Q0 w π0 vs k6 (rT c3 hπm args _ ha)).mono ?_;rintro e w' ⟨u,π1,rfl,hE,N,hr⟩;obtain⟨E,a7⟩:∃E,E=xM K keep H.length m:=⟨_,rfl⟩;have n3:E.length=K+m:=by rw[a7];simp only[xM,List.length_append,List.length_map,List.length_take,List.length_range'];omega
 have c5:∀k,k<K->∃t,keep[k]?=some (E[k]?.getD 0,t)/\E[k]?=some (E[k]?.getD 0):=by
  intro k hk;have c6:k<keep.length:=by omega
  refine⟨keep[k].2,?_⟩;have:E[k]?=some keep[k].1:=by
   rw[a7,xM,List.getElem?_append_left (by simp;omega),List.getElem?_map,List.getElem?_take,if_pos hk,geT c6];rfl
  rw[this];simp[geT c6]
 have j8:∀k,K<=k->k<K+m->E[k]?=some (H.length+(k-K)):=by
  intro k h1 h2;rw[a7,xM,List.getElem?_append_right (by simp;omega)];have:(List.map (fun x:Nat×Bool=>x.1) (List.take K keep)).length=K:=by simp;omega
  rw[this,List.getElem?_range' (by omega)];simp
 have h9:E.Nodup:=by
  rw[a7,xM,List.nodup_append];refine⟨?_,List.nodup_range',?_⟩
  ·rw[List.map_take];exact List.Sublist.nodup (List.take_sublist _ _) h8
  ·rintro a j9 b C rfl;obtain⟨q,J,rfl⟩:=List.mem_map.1 j9;have h1:=O q (List.mem_of_mem_take J);have:=(List.mem_range'_1.1 C).1;omega
 have k0:∀{i j c:Nat},E[i]?=some c->E[j]?=some c->i=j:=by
  intro i j c h1 h2;have hi:=aK h1;have Y:=aK h2;rw[geT hi]at h1;rw[geT Y]at h2;exact(List.getElem_inj h9).1 (by rw[Option.some.inj h1,Option.some.inj h2])
 have c7:(xo (fun k=>E[k]?) E ts H1).map (·.1)=E:=Al _ _ _ _ (by rw[n3,j3]) j4;rw[<-a7]at hv;have j0:ws=xo (fun k=>E[k]?) E ts H1++vh (keep.drop K):=by rw[<-l8,C0,<-a7]
 have b6:ws.map (·.1)=E++(keep.drop K).map (·.1):=by rw[j0,List.map_append,c7,yu]
 have k7:(ws.map (·.1)).Nodup:=by
  rw[b6,List.nodup_append];refine⟨h9,?_,?_⟩
  ·rw[List.map_drop];exact List.Sublist.nodup (List.drop_sublist _ _) h8
  ·rintro a j9 b C rfl;obtain⟨k,hk⟩:=List.getElem?_of_mem j9;obtain⟨q,J,rfl⟩:=List.mem_map.1 C;obtain⟨i,hi⟩:=List.getElem?_of_mem J;rw[List.getElem?_drop]at hi;by_cases a8:k<K
   ·obtain⟨t,g1,g2⟩:=c5 k a8;rw[hk]at g1;have:=qZ keep hn k (K+i) _ t q.2 g1 (by rw[hi];rfl);omega
   ·have k8:=aK hk;rw[j8 k (by omega) (by omega)]at hk;have:=O q (List.mem_of_getElem? hi);have:=Option.some.inj hk;omega
 have a6:∀q∈ws,q.1<H'.length:=by
  intro q J;have:q.1∈ws.map (·.1):=List.mem_map.2 ⟨q,J,rfl⟩;rw[b6]at this;rcases List.mem_append.1 this with h|h
  ·obtain⟨k,hk⟩:=List.getElem?_of_mem h;by_cases a8:k<K
   ·obtain⟨t,g1,g2⟩:=c5 k a8;rw[hk]at g1;have:=O _ (List.mem_of_getElem? g1);simp only[Option.getD_some]at this;omega
   ·have k8:=aK hk;rw[j8 k (by omega) (by omega)]at hk;have:=Option.some.inj hk;omega
  ·obtain⟨x,hx,e⟩:=List.mem_map.1 h;have:=O x (List.mem_of_mem_drop hx);omega
 obtain⟨H2,b1⟩:∃H2,H2=aN H' ws:=⟨_,rfl⟩;have k9:H2.length=H'.length:=by rw[b1];exact wK ws H' a6
 have l0:∀{k j:Nat},E[k]?=some j->j<π.length:=by
  intro k j hk;have:j∈ws.map (·.1):=by rw[b6];exact List.mem_append.2 (.inl (List.mem_of_getElem? hk))
  obtain⟨q,J,rfl⟩:=List.mem_map.1 this;have:=a6 q J;omega
 have hex:∀j:Nat,∃o:Option PB,(∀k:Nat,E[k]?=some j->o=(π1[k]?).getD none)/\(j∉E->o=(π[j]?).getD none):=by
  intro j;by_cases Y:j∈E
  ·obtain⟨k,hk⟩:=List.getElem?_of_mem Y;exact⟨(π1[k]?).getD none,fun k' c6=>by rw[k0 hk c6],fun h=>(h Y).elim⟩
  ·exact⟨(π[j]?).getD none,fun k hk=>(Y (List.mem_of_getElem? hk)).elim,fun _=>rfl⟩
 obtain⟨g,hg⟩:=Classical.axiomOfChoice hex;obtain⟨π2,hπ2⟩:∃π2:List (Option PB),π2=(List.range π.length).map g:=⟨_,rfl⟩;have ol:π2.length=π.length:=by rw[hπ2];simp
 have oi:∀{k j:Nat},E[k]?=some j->π2[j]?=some ((π1[k]?).getD none):=by
  intro k j hk;rw[hπ2,List.getElem?_map,List.getElem?_range (l0 hk),Option.map_some,(hg j).1 k hk]
 have oo:∀{j:Nat},j∉E->π2[j]?=π[j]?:=by
  intro j Y;by_cases hl:j<π.length
  ·rw[hπ2,List.getElem?_map,List.getElem?_range hl,Option.map_some,(hg j).2 Y,geT hl,Option.getD_some]
  ·rw[List.getElem?_eq_none (by omega),List.getElem?_eq_none (by omega)]
 have a1:∀(b c:Nat) (q:PB),E[b]?=some c->π1[b]?=some (some q)->π2[c]?=some (some q):=by
  intro b c q C J;rw[oi C,J];rfl
 have l1:∀(i:Nat) (p:PB),π[i]?=some (some p)->π2[i]?=some (some p):=by
  intro i p h;by_cases hi:i∈E
  ·obtain⟨k,hk⟩:=List.getElem?_of_mem hi;by_cases a8:k<K
   ·obtain⟨t,g1,g2⟩:=c5 k a8;rw[hk]at g1;simp only[Option.getD_some]at g1;have:π0[k]?=some (some p):=by rw[hπ0,List.getElem?_map,g1];simp[h]
    exact a1 k i p hk (hE.pin k a8 p this)
   ·have k8:=aK hk;rw[j8 k (by omega) (by omega)]at hk;obtain rfl:=Option.some.inj hk;exact(hπ _ (by omega) (by omega) p h).elim
  ·rw[oo hi];exact h
 have key:∀(j:Nat) (x:Blk) (p:PB),H2[j]?=some x->x.isLive=true->π2[j]?=some (some p)->
   (j∉keep.map (·.1)/\H'[j]?=some x/\π[j]?=some (some p))\/∃(k:Nat) (t:Bool) (y:Blk),E[k]?=some j/\ts[k]?=some t/\H1[k]?=some y/\x=rfB (fun k=>E[k]?) t y/\π1[k]?=some (some p):=by
  intro j x p h1 h2 D;by_cases Y:∃b,(j,b)∈ws
  ·obtain⟨b,C⟩:=Y;have e:=yE ws H' j b a6 k7 C;rw[<-b1,h1]at e;cases e;rw[j0]at C;rcases List.mem_append.1 C with C|C
   ·obtain⟨k,t,y,g1,g2,g3,g4⟩:=Ak _ _ _ _ _ _ C;refine .inr ⟨k,t,y,g1,g2,g3,g4,?_⟩;rw[oi g1]at D;cases hk:π1[k]? with
    |none=>rw[hk]at D;cases D
    |some q=>rw[hk]at D;simpa using D
   ·have:=yk _ _ _ C;subst this;cases h2
  ·have Y:∀b,(j,b)∉ws:=fun b C=>Y ⟨b,C⟩
   rw[b1,sx ws H' j a6 Y]at h1;have b7:j∉ws.map (·.1):=fun hm=>by
    obtain⟨q,J,rfl⟩:=List.mem_map.1 hm;exact Y q.2 J
   rw[b6]at b7;have l2:j∉E:=fun h=>b7 (List.mem_append.2 (.inl h))
   have n4:j∉(keep.drop K).map (·.1):=fun h=>b7 (List.mem_append.2 (.inr h))
   refine .inl ⟨fun hm=>?_,h1,?_⟩
   ·obtain⟨q,J,rfl⟩:=List.mem_map.1 hm;obtain⟨i,hi⟩:=List.getElem?_of_mem J;by_cases n5:i<K
    ·obtain⟨t,g1,g2⟩:=c5 i n5;rw[hi]at g1;have e:q.1=E[i]?.getD 0:=by rw[Option.some.inj g1]
     rw[<-e]at g2;exact l2 (List.mem_of_getElem? g2)
    ·refine n4 (List.mem_map.2 ⟨q,?_,rfl⟩);refine List.mem_of_getElem? (i:=i-K) ?_;rw[List.getElem?_drop,show K+(i-K)=i by omega];exact hi
   ·rw[oo l2]at D;exact D
 have b8:∀b,aI out π2 H2 b->aI T π1 H1 b:=by
  rintro b (h|⟨i,x,p,h1,h2,D,h4⟩)
  ·exact .inl (by rw[I];exact .inl h)
  ·rcases key i x p h1 (Blk.bJ h2) D with⟨g1,g2,g3⟩|⟨k,t,y,g1,g2,g3,g4,g5⟩
   ·exact .inl (by rw[I];exact .inr ⟨i,x,p,g2,h2,g1,g3,h4⟩)
   ·exact .inr ⟨k,y,p,g3,oQ (by rw[<-g4];exact h2),g5,eM (by rw[<-g4];exact h4)⟩
 have j1:Ext B w w' (aI out π H') (aI out π2 H2) π π2:=by
  refine⟨fun b C=>hE.low b (j7 b C),hE.size,fun b C n9=>?_,l1,hE.os,hE.tape,hE.output,hE.drawn⟩;obtain⟨k1,k2⟩:=hE.keep b C (fun h=>n9 (c3 b h));exact⟨k1,fun h=>k2 (b8 b h)⟩
 have b9:∀{k:Nat} {y:Blk} {p:PB} {c:Nat},H1[k]?=some y->π1[k]?=some (some p)->y.owns p c->w.heap.size<=c\/∃(b:Nat) (z:Blk) (q:PB),b∈keep.map (·.1)/\H'[b]?=some z/\π[b]?=some (some q)/\z.owns q c:=by
  intro k y p c h1 h2 D;have c8:=(N.baseO k y p c h1 h2 D).1;rw[b5]at c8;by_cases j5:c<w.heap.size
  ·right;have c8:∃(k:Nat) (x:Blk) (q:PB),(rnH H' keep keep)[k]?=some x/\x.isLive=true/\π0[k]?=some (some q)/\x.owns q c:=Classical.byContradiction fun hc=>c8 ⟨j5,hc⟩
   obtain⟨k',x,q,e1,e2,U,e4⟩:=c8;obtain⟨b,t,z,g1,g2,g3,g4⟩:=back e1 e2 U;exact⟨b,z,q,b4 g1,g2,g4,eM (by rw[g3];exact e4)⟩
  ·exact .inl (by omega)
 have same:∀{i:Nat} {x:Blk} {p:PB} {c:Nat},i∉keep.map (·.1)->H'[i]?=some x->π[i]?=some (some p)->x.owns p c->w'.heap[c]?=w.heap[c]?:=by
  intro i x p c h0 h1 h2 D;by_cases hm:x.eN=true
  ·exact hE.low _ (k6.out_lt _ (by rw[I];exact .inr ⟨i,x,p,h1,hm,h0,h2,D⟩))
  ·refine(hE.keep c (M.baseO i x p c h1 h2 D).2 (fun h=>?_)).1;rcases c3 _ h with ho|⟨j,y,q,g1,g2,g3,g4⟩
   ·exact(M.baseO i x p c h1 h2 D).1 (M.out_lt _ ho)
   ·by_cases l3:j=i
    ·subst l3;rw[h1]at g1;cases g1;exact hm g2
    ·exact M.sepO j i y x q p c l3 g1 h1 g3 h2 g2 g4 D
 refine⟨u,π2,rfl,?_,?_,?_,?_⟩
 ·rw[<-b1];exact j1
 ·rw[<-b1];refine⟨by rw[ol,k9,hl],fun b C=>Nat.lt_of_lt_of_le (M.bound b C) hE.size,M.out_lt,?_,?_,?_⟩
  ·intro i x p c h1 h2 D;rcases key i x p h1 (Blk.di D) h2 with⟨g1,g2,g3⟩|⟨k,t,y,g1,g2,g3,g4,g5⟩
   ·have:=M.baseO i x p c g2 g3 D;exact⟨this.1,Nat.lt_of_lt_of_le this.2 hE.size⟩
   ·have l4:y.owns p c:=eM (by rw[<-g4];exact D);exact⟨fun C=>(N.baseO k y p c g3 g5 l4).1 (j7 _ C),(N.baseO k y p c g3 g5 l4).2⟩
  ·intro i x p h1 h2;cases hx:x.isLive with
   |false=>exact dy.DM hx
   |true=>
    rcases key i x p h1 hx h2 with⟨g1,g2,g3⟩|⟨k,t,y,g1,g2,g3,g4,g5⟩
    ·exact dy.ext j1 (fun c hc=>same g1 g2 g3 hc) (M.ok i x p g2 g3)
    ·subst g4;exact Bo b8 a1 (fun ht=>by subst ht;exact tZ ts H1 k y l7 g2 g3) (N.ok k y p g3 g5)
  ·intro i j x y p q c c4 h1 h2 D h4 h5 h6 h7;rcases key i x p h1 (Blk.bJ h5) D with⟨g1,g2,g3⟩|⟨k,t,z,g1,g2,g3,g4,g5⟩
   ·rcases key j y q h2 (Blk.di h7) h4 with⟨k1,k2,k3⟩|⟨k',t',z',k1,k2,k3,k4,k5⟩
    ·exact M.sepO i j x y p q c c4 g2 k2 g3 k3 h5 h6 h7
    ·have o0:z'.owns q c:=eM (by rw[<-k4];exact h7);refine(N.baseO k' z' q c k3 k5 o0).1 (N.out_lt _ ?_);rw[I];exact .inr ⟨i,x,p,g2,h5,g1,g3,h6⟩
   ·have c7:z.eN=true:=oQ (by rw[<-g4];exact h5);have c9:z.owns p c:=eM (by rw[<-g4];exact h6);rcases key j y q h2 (Blk.di h7) h4 with⟨k1,k2,k3⟩|⟨k',t',z',k1,k2,k3,k4,k5⟩
    ·have o2:=(M.baseO j y q c k2 k3 h7).2;rcases b9 g3 g5 c9 with o3|⟨b,z2,q2,f1,f2,f3,f4⟩
     ·omega
     ·have o4:b≠j:=fun e=>k1 (e▸f1)
      by_cases l5:aI T π0 (rnH H' keep keep) c
      ·rcases l5 with ho|⟨o5,x2,p2,e1,e2,U,e4⟩
       ·exact(N.baseO k z p c g3 g5 c9).1 (N.out_lt _ ho)
       ·obtain⟨b',t2,y2,m1,m2,m3,m4⟩:=back e1 (Blk.bJ e2) U;have l6:b'≠j:=fun e=>k1 (e▸b4 m1)
        exact M.sepO b' j y2 y p2 q c l6 m2 k2 m4 k3 (oQ (by rw[m3];exact e2)) (eM (by rw[m3];exact e4)) h7
      ·exact(hE.keep c (by omega) l5).2 (.inr ⟨k,z,p,g3,c7,g5,c9⟩)
    ·have o1:k≠k':=by
      rintro rfl;rw[g1]at k1;exact c4 (Option.some.inj k1)
     exact N.sepO k k' z z' p q c o1 g3 k3 g5 k5 c7 c9 (eM (by rw[<-k4];exact h7))
 ·rw[<-b1,<-hv];exact wX b8 a1 r u hr
 ·intro j Y;have b7:j∉E:=fun hm=>by
   have:j∈ws.map (·.1):=by rw[b6];exact List.mem_append.2 (.inl hm)
   obtain⟨q,J,rfl⟩:=List.mem_map.1 this;exact Y q.2 J
  exact oo b7
end Go.Eng


set_option linter.unusedVariables false
namespace Go.Eng
open Go Go.RowKit
variable[Dr]
noncomputable def tm(P:Program)(call:dw)(ops l:List Oper)(s:List AV)(h:List Blk):St:=match gj P call ops l ⟨s,h⟩with|some st=>st|none=>⟨s,h⟩
noncomputable def A7(P:Program)(call:dw)(ops l:List Oper)(s:List AV)(h:List Blk):Bool:=match gj P call ops l ⟨s,h⟩with|some _=>true|none=>false
theorem Be{P:Program}{call:dw}{ops l:List Oper}{s:List AV}{h:List Blk}(e:A7 P call ops l s h=true):gj P call ops l ⟨s,h⟩=some (tm P call ops l s h):=by
 unfold A7 at e;unfold tm;split at e
 ·rename_i st j;rw[j]
 ·cases e
section
variable{P:Program}{call:dw}{ops l:List Oper}{s:List AV}{h:List Blk}{K:List AV->List Blk->Prop}{KT:List AV->List Blk->List Ent->Prop}
theorem EVO.mu(n:Nat)(hk:EVO P call ops (l.drop n) (tm P call ops (l.take n) s h).slots (tm P call ops (l.take n) s h).heap K)(e:A7 P call ops (l.take n) s h=true:=by kernel_rfl):EVO P call ops l s h K:=by
 have:=EVO.many (l1:=l.take n) (l2:=l.drop n) (s1:=(tm P call ops (l.take n) s h).slots) (h1:=(tm P call ops (l.take n) s h).heap) (by rw[Be e]) hk;rwa[List.take_append_drop]at this
noncomputable def Eg(P:Program)(call:dw)(ops l:List Oper)(s:List AV)(h:List Blk):St:=match fi P call ops l ⟨s,h⟩with|some (st,_)=>st|none=>⟨s,h⟩
noncomputable def IF(P:Program)(call:dw)(ops l:List Oper)(s:List AV)(h:List Blk):Bool:=match fi P call ops l ⟨s,h⟩with|some _=>true|none=>false
theorem EVT.mu(n:Nat)(hk:EVT P call ops (l.drop n) (Eg P call ops (l.take n) s h).slots (Eg P call ops (l.take n) s h).heap (fun m p es=>KT m p (Hx P call ops (l.take n) s h++es)))(e:IF P call ops (l.take n) s h=true:=by kernel_rfl):EVT P call ops l s h KT:=by
 have:=EVT.many (l1:=l.take n) (l2:=l.drop n) (s1:=(Eg P call ops (l.take n) s h).slots) (h1:=(Eg P call ops (l.take n) s h).heap) (by
  unfold IF at e;unfold Eg;split at e
  ·rename_i st j;rw[j]
  ·cases e) hk
 rwa[List.take_append_drop]at this
end
section
variable{P:Program}{K:Nat}{k:List Fr}{F:X->St->Prop}{d:Code}{i:Nat}{l:List Oper}{s:List AV}{h:List Blk}
theorem CQ.ru(G:oW P)(hk:CQ K P k F .normal ⟨(tm P (cP []) l l s h).slots,(tm P (cP []) l l s h).heap⟩)(e:A7 P (cP []) l l s h=true:=by kernel_rfl):CQ K P (.c (.region i l.toArray false)::k) F .normal ⟨s,h⟩:=
 CQ.region G bV ⟨_,Be e,hk⟩
noncomputable def Cu(P:Program)(l:List Oper)(s:List AV)(h:List Blk)(keep:List Nat):Option St:=match gj P (cP []) l l ⟨s,h⟩with|some st=>some ⟨nH keep st.slots 0,st.heap⟩|none=>none
theorem CQ.rn(G:oW P)(keep:List Nat)(m:List AV)(p:List Blk)(hk:CQ K P (.c d::k) F .normal ⟨m,p⟩)(e:Cu P l s h keep=some ⟨m,p⟩:=by kernel_rfl):CQ K P (.c (.region i l.toArray false)::.c d::k) F .normal ⟨s,h⟩:=by
 unfold Cu at e;split at e
 ·rename_i st j;obtain⟨s1,h1⟩:=st;exact CQ.region G bV ⟨_,j,CQ.wk ((Wk.mask keep).to (Option.some.inj e)) hk⟩
 ·cases e
theorem CQ.g1(G:oW P){f:FuncId}{args:List AV}{r:uf}(c:gz P f args h r)(he:EVO P (cP [{f:=f,args:=args,H:=h,r:=r:CE}]) l l s h (fun j m=>CQ K P k F .normal ⟨j,m⟩)):CQ K P (.c (.region i l.toArray false)::k) F .normal ⟨s,h⟩:=CQ.region G (xt c) he
theorem CQ.t1(G:oW P){f:FuncId}{args:List AV}{r:uf}(c:gz P f args h r)(he:EVT P (cP [{f:=f,args:=args,H:=h,r:=r:CE}]) l l s h (fun j m es=>uH l es=true/\CQ K P k F .normal ⟨j,m⟩)):CQ K P (.c (.region i l.toArray true)::k) F .normal ⟨s,h⟩:=CQ.fb G (xt c) he
end
theorem mU{P:Program}{f:FuncId}{args:List AV}{H:List Blk}{r:uf}{L:List CE}(c:gz P f args H r)(cs:fP P (cP L)):fP P (cP ({f:=f,args:=args,H:=H,r:=r:CE}::L)):=fun g a H' j e=>by
 simp only[cP]at e;split at e
 ·rename_i hk;cases e;obtain⟨rfl,rfl,rfl⟩:=hk;exact c
 ·exact cs g a H' j e
theorem bB{P:Program}{f:FuncId}{args j:List AV}{H N H1:List Blk}{r:AV}(K m:Nat)(keep:List (Nat×Bool))(I:List Bool)(E:dr K P f j N r H1)
  (p:ik H keep) (J:wP I H1) (z:H1.length=K+m) (C:I.length=H1.length)
  (D:rnL keep args=j) (hH:rnH H keep keep=N)
  (O:oR keep=true:=by kernel_rfl) (M:keep.all (fun q=>Nat.blt q.1 H.length)=true:=by kernel_rfl) (T:Nat.ble K keep.length=true:=by kernel_rfl):
  gz P f args H (.loc (rfA (fun k=>(xM K keep H.length m)[k]?) r) (C0 K keep H.length m I H1) (keep.map (·.1)) m):=
 xa K keep I E p J z C O M T D hH rfl rfl rfl
theorem pKo{H:List Blk}{b:Nat}{l:List (Nat×Bool)}{α:Type}(c:α->List AV)(hc:∀x,bL (c x)=[])(e:List α)(rest:ik H l)(j:H[b]?=some (.own (e.flatMap c)):=by kernel_rfl):ik H ((b,false)::l):=
 ⟨by rw[j];exact bb hc e,rest⟩
theorem pKf{H:List Blk}{b:Nat}{l:List (Nat×Bool)}{α:Type}(c:α->List AV)(hc:∀x,bL (c x)=[])(e:List α)(rest:ik H l)(j:H[b]?=some (.fix (e.flatMap c)):=by kernel_rfl):ik H ((b,false)::l):=
 ⟨by rw[j];exact bb hc e,rest⟩
def J4:Option Blk->List Nat
 |some (.own cs)=>bL cs
 |some (.fix cs)=>bL cs
 |some (.map es)=>qq es
 |some (.iter ..)=>[0]
 |some (.rows rs)=>rZ rs
 |_=>[]
theorem pKc{H:List Blk}{b:Nat}{l:List (Nat×Bool)}(rest:ik H l)(j:J4 H[b]?=[]:=by kernel_rfl):ik H ((b,false)::l):=by
 refine⟨?_,rest⟩;generalize H[b]?=o at*;cases o with
 |none=>trivial
 |some x=>cases x<;>first|exact j|trivial|(simp[J4]at j;done)
theorem pKt{H:List Blk}{b:Nat}{l:List (Nat×Bool)}(rest:ik H l):ik H ((b,true)::l):=rest
theorem pK0{H:List Blk}:ik H []:=trivial
def slH(b e:Bool)(j hi:Nat)(f:Nat->Nat->AV):Option bj:=bj.ofP (match (match b with|true=>some (j,hi)|false=>none),e with|some (l,h),true=>some (f l h)|_,_=>none)
theorem Im{b:Bool}{j hi:Nat}{f:Nat->Nat->AV}{v:AV}(h:b=true)(m:f j hi=v):slH b true j hi f=some (.pure v):=by subst h;subst m;rfl
theorem Wk.cut(b:Nat){K:Nat}{cs:List AV}{s:List AV}{h:List Blk}(m:Nat)(z:h[b]?=some (.own cs)):Wk K ⟨s,h⟩ ⟨s,h.set b (.own (cs.take m))⟩:=fun out B w π a O=>by
 have D:=O.inv;have J:=aK z;have g:∀{k:Nat} {x:Blk},(h.set b (.own (cs.take m)))[k]?=some x->(k=b/\x=.own (cs.take m))\/(k≠b/\h[k]?=some x):=by
  intro k x hk;by_cases j:k=b
  ·subst j;rw[List.getElem?_set_self J]at hk;exact .inl ⟨rfl,(Option.some.inj hk).symm⟩
  ·rw[List.getElem?_set_ne (fun e=>j e.symm)]at hk;exact .inr ⟨j,hk⟩
 have old:∀{k:Nat} {x:Blk},(h.set b (.own (cs.take m)))[k]?=some x->∃y,h[k]?=some y/\y.isLive=x.isLive/\y.eN=x.eN/\(∀p b,x.owns p b->y.owns p b):=by
  intro k x hk;rcases g hk with⟨rfl,rfl⟩|⟨_,hk⟩
  ·exact⟨_,z,rfl,rfl,fun _ _ h=>h⟩
  ·exact⟨x,hk,rfl,rfl,fun _ _ h=>h⟩
 have E:aI out π (h.set b (.own (cs.take m)))=aI out π h:=by
  funext c;apply propext;constructor
  ·rintro(z|⟨k,x,p,h1,h2,C,I⟩)
   ·exact .inl z
   ·obtain⟨y,M,_,Y,N⟩:=old h1;exact .inr ⟨k,y,p,M,by rw[Y];exact h2,C,N _ _ I⟩
  ·rintro(T|⟨k,x,p,h1,h2,C,I⟩)
   ·exact .inl T
   ·by_cases j:k=b
    ·subst j;rw[z]at h1;cases h1;exact .inr ⟨k,.own (cs.take m),p,List.getElem?_set_self J,rfl,C,I⟩
    ·exact .inr ⟨k,x,p,by rw[List.getElem?_set_ne (fun e=>j e.symm)];exact h1,h2,C,I⟩
 refine⟨π,⟨O.defers,?_,?_⟩,fun b z=>?_,mR.refl π⟩
 ·simp only[E];exact O.slots
 ·refine⟨by simpa using D.len,D.bound,D.out_lt,?_,?_,?_⟩
  ·intro k x p b h1 h2 C;obtain⟨y,M,_,_,N⟩:=old h1;exact D.baseO k y p b M h2 (N _ _ C)
  ·intro k x p h1 h2;simp only[E];rcases g h1 with⟨rfl,rfl⟩|⟨_,hk⟩
   ·obtain⟨o1,o2⟩:=D.ok k _ p z h2;exact⟨o1,RvC.take m cs _ _ o2⟩
   ·exact D.ok k x p hk h2
  ·intro k l x y p q b U h1 h2 C I h5 h6 h7;obtain⟨x',x1,_,x3,x4⟩:=old h1;obtain⟨y',M,_,_,N⟩:=old h2;exact D.sepO k l x' y' p q b U x1 M C I (by rw[x3];exact h5) (x4 _ _ h6) (N _ _ h7)
 ·rw[E]at z;exact z
theorem Wk.Le(i b:Nat){K:Nat}{α:Type}{c:α->List AV}{es:Nat}(hc:∀x,(c x).length=es)(l:List α)(k:Nat){s:List AV}{h:List Blk}(hk:k<=l.length)(hs:uv s i=.hs b 0 k es)(j:h[b]?=some (.own (l.flatMap c))):
  Wk K ⟨s,h⟩ ⟨s.set i (.hs b 0 (l.take k).length es),h.set b (.own ((l.take k).flatMap c))⟩:=
 ((Wk.cut b (k*es) j).to (by rw[qP hc])).trans (Wk.jm i (b:=b) (len:=k) (es:=es) (l.take k).length hs (by rw[List.length_take];omega))
theorem SnC.take{H:List Blk}{ok:Nat->Bool}{A j:List AV}(n:Nat)(h:SnC H ok A j):SnC H ok A (j.take n):=fun w mu mu' π b o m hm p=>RvC.take n _ _ _ (h w mu mu' π b o m hm p)
theorem Sn.hsk{H:List Blk}{ok:Nat->Bool}{b es:Nat}{α:Type}{c:α->List AV}{l:List α}{k:Nat}(hc:∀x,(c x).length=es)(hp:∀x,bL (c x)=[])(hk:k<=l.length)(j:ok b=true)
  (m:H[b]?=some (.own (l.flatMap c))\/H[b]?=some (.fix (l.flatMap c))):Sn H ok (.hs b 0 k es) (slT c (l.take k)):=by
 have h:=Sn.hs (len:=k) (es:=es) j m (SnC.take (k*es) (SnC.pure (bb hp l))) (fun h=>by subst h;simp);unfold slT;rw[<-qP hc,List.length_take,Nat.min_eq_left hk];exact h
attribute [irreducible] tm A7 Cu Eg IF
end Go.Eng


set_option linter.unusedVariables false
namespace Go.Eng
open Go Go.RowKit
variable[Dr]
section
variable{P:Program}{call:dw}{ops rest:List Oper}{o:Oper}{s:List AV}{h:List Blk}{K:List AV->List Blk->Prop}{KT:List AV->List Blk->List Ent->Prop}{v:AV}{ws:List (Nat×Blk)}{f:FuncId}{args:List AV}{rd:List Nat}{n:Nat}
theorem EVO.ca(hc:call f args h=some (.loc v ws rd n))(hk:EVO P call ops rest (fQ s o.dst v) (aN (h++gK n) ws) K)(hw:cH ops o s=some true:=by kernel_rfl)(he:evalOp P (evA s) h h.length o=some (.call f args):=by kernel_rfl):EVO P call ops (o::rest) s h K:=EVO.cal hw he hc hk
theorem EVT.ca(hc:call f args h=some (.loc v ws rd n))(hk:EVT P call ops rest (fQ s o.dst v) (aN (h++gK n) ws) (fun m p es=>KT m p (Gp o h v ws rd n::es)))(hw:cH ops o s=some true:=by kernel_rfl)(he:evalOp P (evA s) h h.length o=some (.call f args):=by kernel_rfl)(j:lT h.length (Gp o h v ws rd n)=true:=by kernel_rfl):EVT P call ops (o::rest) s h KT:=EVT.cal hw he hc j hk
end
def mY(P:Program)(h:List Blk)(F:dw):Prop:=fP P F
section
variable{P:Program}{h H:List Blk}{f:FuncId}{args:List AV}{r:uf}{L:List CE}
theorem ca1(c:gz P f args h r)(cs:mY P h (cP L)):mY P h (cP ({f:=f,args:=args,H:=h,r:=r:CE}::L)):=mU c cs
theorem ca2(H:List Blk)(c:gz P f args H r)(cs:mY P h (cP L)):mY P h (cP ({f:=f,args:=args,H:=H,r:=r:CE}::L)):=mU c cs
theorem ca3(c:gz P f args h r):mY P h (cP [{f:=f,args:=args,H:=h,r:=r:CE}]):=mU c bV
theorem ca4(H:List Blk)(c:gz P f args H r):mY P h (cP [{f:=f,args:=args,H:=H,r:=r:CE}]):=mU c bV
variable{K:Nat}{k:List Fr}{F:X->St->Prop}{i:Nat}{l:List Oper}{s:List AV}
theorem CQ.gn(G:oW P){L:List CE}(c:mY P h (cP L))(he:EVO P (cP L) l l s h (fun j m=>CQ K P k F .normal ⟨j,m⟩)):CQ K P (.c (.region i l.toArray false)::k) F .normal ⟨s,h⟩:=CQ.region G c he
theorem CQ.tn(G:oW P){L:List CE}(c:mY P h (cP L))(he:EVT P (cP L) l l s h (fun j m es=>uH l es=true/\CQ K P k F .normal ⟨j,m⟩)):CQ K P (.c (.region i l.toArray true)::k) F .normal ⟨s,h⟩:=CQ.fb G c he
theorem ok0{r:AV}(j:aT P f args r)(hp:bL args=[]:=by kernel_rfl):gz P f args H (.loc r [] [] 0):=ie (l:=[]) (SnL.pure hp) j
theorem cf0{e:CE}(hH:H=e.H:=by kernel_rfl):cP (e::L) e.f e.args H=some e.r:=DQ hH
theorem cfF{e:CE}(m:cP L f args H=some r)(j:Nat.beq f e.f=false:=by kernel_rfl):cP (e::L) f args H=some r:=vq (fun h _=>absurd h (fun x=>by rw[show Nat.beq f e.f=true from by rw[x];exact Nat.beq_refl _]at j;cases j)) m
theorem cfA{e:CE}(j:args=e.args->r=e.r)(m:cP L f args H=some r):cP (e::L) f args H=some r:=vq (fun _ h=>j h) m
end
theorem sv{α:Type}{p q:Option α}{a b:α}(hp:p=some a)(j:q=some b)(e:p=q):a=b:=Option.some.inj (hp.symm.trans (e.trans j))
section
variable{P:Program}{K:Nat}{k:List Fr}{F:X->St->Prop}{d:Code}{i:Nat}{l:List Oper}{s:List AV}{h:List Blk}
theorem CQ.n2(m:Nat)(q:List (Nat×AV))(j:List Blk)(hk:CQ K P (.c d::k) F .normal ⟨mkS m 0 q,j⟩)(e:nH (q.map (·.1)) s 0=mkS m 0 q:=by kernel_rfl)(e2:h=j:=by kernel_rfl):CQ K P (.c d::k) F .normal ⟨s,h⟩:=CQ.norm _ e e2 hk
theorem CQ.r2(G:oW P)(m:Nat)(q:List (Nat×AV))(j:List Blk)(hk:CQ K P (.c d::k) F .normal ⟨mkS m 0 q,j⟩)(e:Cu P l s h (q.map (·.1))=some ⟨mkS m 0 q,j⟩:=by kernel_rfl):CQ K P (.c (.region i l.toArray false)::.c d::k) F .normal ⟨s,h⟩:=CQ.rn G _ _ _ hk e
theorem CQ.r3(G:oW P)(m:Nat)(q:List (Nat×AV))(hk:CQ K P (.c d::k) F .normal ⟨mkS m 0 q,h⟩)(e:Cu P l s h (q.map (·.1))=some ⟨mkS m 0 q,h⟩:=by kernel_rfl):CQ K P (.c (.region i l.toArray false)::.c d::k) F .normal ⟨s,h⟩:=CQ.rn G _ _ _ hk e
end
section
variable{α β:Type}{γ:Type}{δ:Type}
theorem bd2{x:Option α}{y:α->Option β}{f:(a:α)->β->Option γ}{r:γ}(h:bdO x (fun a=>bdO (y a) (f a))=some r):∃a,x=some a/\∃b,y a=some b/\f a b=some r:=by
 obtain⟨a,h1,h⟩:=bd h;obtain⟨b,h2,h⟩:=bd h;exact⟨a,h1,b,h2,h⟩
theorem bd3{x:Option α}{y:α->Option β}{z:α->β->Option γ}{f:(a:α)->(b:β)->γ->Option δ}{r:δ}(h:bdO x (fun a=>bdO (y a) (fun b=>bdO (z a b) (f a b)))=some r):∃a,x=some a/\∃b,y a=some b/\∃c,z a b=some c/\f a b c=some r:=by
 obtain⟨a,h1,b,h2,h⟩:=bd2 h;obtain⟨c,j,h⟩:=bd h;exact⟨a,h1,b,h2,c,j,h⟩
theorem gd2{a b:Bool}{t:Option α}{r:α}(h:gdO a (gdO b t)=some r):a=true/\b=true/\t=some r:=by
 obtain⟨h1,h⟩:=gd h;exact⟨h1,gd h⟩
theorem gd3{a b c:Bool}{t:Option α}{r:α}(h:gdO a (gdO b (gdO c t))=some r):a=true/\b=true/\c=true/\t=some r:=by
 obtain⟨h1,h⟩:=gd h;exact⟨h1,gd2 h⟩
end
theorem aT.bd{P:Program}(G:oW P){f:FuncId}{fn:Func}(p:P.funcs[f]?=some fn){args:List AV}{r:AV}(rs:List ResultVar)
  (h:CQ 0 P [.c (fn.body.getD .skip)] (aO P rs r) .normal ⟨args++pd (fn.ntmps-args.length),[]⟩) (m:fn.body.isSome=true:=by kernel_rfl) (j:fn.results.toList=rs:=by kernel_rfl):aT P f args r:=
 aT.body G p (c:=fn.body.getD .skip) (by cases h1:fn.body with|none=>rw[h1]at m;cases m|some c=>rfl) rfl j h
theorem CQ.cd{P:Program}{K:Nat}{k:List Fr}{F:X->St->Prop}{st:St}{c:Operand}{a b:Code}{α:Type}{t:Bool}{x y:Option α}{r:α}(j:cdO t x y=some r)
  (h1:t=true->x=some r->CQ K P (.c a::k) F .normal st) (h2:t=false->y=some r->CQ K P (.c b::k) F .normal st) (m:evA st.slots c=.at (.bool t):=by kernel_rfl):CQ K P (.c (.cond c a b)::k) F .normal st:=
 CQ.cond m (fun h=>h1 h (cQ h j)) (fun h=>h2 h (cR h j))
theorem CQ.app{P:Program}{K:Nat}{q:List Fr}{F Q:X->St->Prop}(p:∀x st',Q x st'->CQ K P q F x st'):∀(m:List Fr) {x:X} {st:St},CQ K P m Q x st->CQ K P (m++q) F x st
 |[],_,_,h=>p _ _ h
 |.c d::m,.normal,st,h=>SC.mono (show SC K P st d (CQ K P m Q)from h) fun x st' z=>CQ.app p m z
 |.c d::m,.exit j,st,h=>CQ.app p m (x:=.exit j) h
 |.c d::m,.ret,st,h=>CQ.app p m (x:=.ret) h
 |.b i::m,.normal,st,h=>CQ.app p m (x:=.normal) h
 |.b i::m,.ret,st,h=>CQ.app p m (x:=.ret) h
 |.b i::m,.exit j,st,h=>by
  simp only[CQ,List.cons_append]at h ⊢;split at h
  ·exact CQ.app p m h
  ·exact CQ.app p m h
theorem CQ.A6{P:Program}{K:Nat}{k:List Fr}{F Q:X->St->Prop}{st:St}{a:Code}(h:CQ K P [.c a] Q .normal st)(j:∀x st',Q x st'->CQ K P k F x st'):CQ K P (.c a::k) F .normal st:=CQ.app j [.c a] h
theorem CQ.MK{P:Program}{K:Nat}{k:List Fr}{F Q:X->St->Prop}{st:St}{a b:Code}(h:CQ K P [.c a,.c b] Q .normal st)(j:∀x st',Q x st'->CQ K P k F x st'):CQ K P (.c a::.c b::k) F .normal st:=CQ.app j [.c a,.c b] h
abbrev nS:AV:=.at (.slice none 0 0)
theorem gdn{α:Type}{b:Bool}{t:Option α}{r:α}(h:gdO (!b) t=some r):b=false/\t=some r:=by
 obtain⟨h1,h2⟩:=gd h;exact⟨by simpa using h1,h2⟩
theorem CQ.cN{P:Program}{K:Nat}{k:List Fr}{F:X->St->Prop}{st:St}{c:Operand}{a b:Code}{t:Bool}(h:t=false)(hk:CQ K P (.c b::k) F .normal st)(j:evA st.slots c=.at (.bool t):=by kernel_rfl):CQ K P (.c (.cond c a b)::k) F .normal st:=
 CQ.cond j (fun e=>by rw[h]at e;cases e) (fun _=>hk)
theorem CQ.scope{P:Program}{K:Nat}{k:List Fr}{F:X->St->Prop}{st:St}{c:Code}(h:CQ K P (.c c::k) F .normal st):CQ K P (.c (.scope c)::k) F .normal st:=fun out B w π act R m p=>
 wp_scope_straight (h out B w π act _ m fun x st' a' w' π' q j z=>by cases x<;>exact p _ st' a' w' π' q j z)
def HW{α:Type}(l:List α)(a:Nat)(ys:List α):List α:=(l.take a++ys++l.drop (a+ys.length)).take l.length
@[simp] theorem JQ {α:Type} (l:List α) (a:Nat) (ys:List α):(HW l a ys).length=l.length:=by
 unfold HW;simp only[List.length_take,List.length_append,List.length_drop];omega
def gW(K:Nat)(P:Program)(rs:List ResultVar)(us:List AV)(H1:List Blk):X->St->Prop:=fun x st=>∃T,Wk K st T/\Ae K P rs us H1 x T
theorem gW.ret{K:Nat}{P:Program}{rs:List ResultVar}{us:List AV}{H1:List Blk}{st:St}(vs:List AV)(k:Wk K ⟨vs,st.heap⟩ ⟨us,H1⟩)(h:dx P st rs=some vs:=by kernel_rfl):gW K P rs us H1 .ret st:=⟨st,Wk.refl st,Ae.ret vs k h⟩
theorem gW.normal{K:Nat}{P:Program}{rs:List ResultVar}{us:List AV}{H1:List Blk}{st:St}(vs:List AV)(k:Wk K ⟨vs,st.heap⟩ ⟨us,H1⟩)(h:dx P st rs=some vs:=by kernel_rfl):gW K P rs us H1 .normal st:=⟨st,Wk.refl st,Ae.normal vs k h⟩
theorem gW.wk{K:Nat}{P:Program}{rs:List ResultVar}{us:List AV}{H1:List Blk}{x:X}{st T:St}(hw:Wk K st T)(h:gW K P rs us H1 x T):gW K P rs us H1 x st:=by
 obtain⟨U,h1,h2⟩:=h;exact⟨U,hw.trans h1,h2⟩
theorem SC.Jv{K:Nat}{P:Program}{st:St}{c:Code}{Q:X->St->Prop}(h:SC K P st c (fun x st'=>∃T,Wk K st' T/\Q x T)):SC K P st c Q:=fun out B w π a R p q=>h out B w π a R p fun x st' a' w' π' j m z=>by
 obtain⟨T,hw,j⟩:=j;obtain⟨π2,g1,g2,g3⟩:=hw out B w' π' a' m;exact q x T a' w' π2 j g1 (z.trans (EK.less g2 g3))
theorem dr.ql{K:Nat}{P:Program}(G:oW P){f:FuncId}{fn:Func}(p:P.funcs[f]?=some fn){c:Code}(q:fn.body=some c){args us:List AV}{m H1:List Blk}{s:List AV}{rs:List ResultVar}(hs:args++pd (fn.ntmps-args.length)=s)(j:fn.results.toList=rs)
  (h:CQ K P [.c c] (gW K P rs us H1) .normal ⟨s,m⟩):dr K P f args m (gL us) H1:=dr.body G p q hs j (SC.Jv h)
section
variable{K:Nat}
theorem RvC.JS{w:World}{mu:Nat->Prop}{π:List (Option PB)}{A m:AV}(p:∀v,Rv w mu π A v->Rv w mu π m v):∀(cs:List AV) (j b o:Nat),cs[j]?=some A->RvC w mu π cs b o->RvC w mu π (cs.set j m) b o
 |[],j,_,_,h,_=>by simp at h
 |c::cs,0,b,o,h,k=>by
  simp at h;subst h;obtain⟨⟨v,h1,h2,q⟩,z⟩:=k;exact⟨⟨v,h1,h2,p _ q⟩,z⟩
 |c::cs,j+1,b,o,h,k=>⟨k.1,RvC.JS p cs j b (o+1) (by simpa using h) k.2⟩
theorem Wk.Kx(i j:Nat){A E:AV}{cs:List AV}{s:List AV}{h:List Blk}(hA:∀(out B:Nat->Prop) (w:World) (π:List (Option PB)) (v:Value),Inv out B w π h->Rv w (aI out π h) π A v->Rv w (aI out π h) π E v)(z:h[i]?=some (.own cs))(hc:cs[j]?=some A):Wk K ⟨s,h⟩ ⟨s,h.set i (.own (cs.set j E))⟩:=fun out B w π a T=>by
 have C:=T.inv;have M:=aK z;have g:∀{k:Nat} {x:Blk},(h.set i (.own (cs.set j E)))[k]?=some x->(k=i/\x=.own (cs.set j E))\/(k≠i/\h[k]?=some x):=by
  intro k x hk;by_cases m:k=i
  ·subst m;rw[List.getElem?_set_self M]at hk;exact .inl ⟨rfl,(Option.some.inj hk).symm⟩
  ·rw[List.getElem?_set_ne (fun e=>m e.symm)]at hk;exact .inr ⟨m,hk⟩
 have old:∀{k:Nat} {x:Blk},(h.set i (.own (cs.set j E)))[k]?=some x->∃y,h[k]?=some y/\y.isLive=x.isLive/\y.eN=x.eN/\(∀p b,x.owns p b->y.owns p b):=by
  intro k x hk;rcases g hk with⟨rfl,rfl⟩|⟨_,hk⟩
  ·exact⟨_,z,rfl,rfl,fun _ _ h=>h⟩
  ·exact⟨x,hk,rfl,rfl,fun _ _ h=>h⟩
 have I:aI out π (h.set i (.own (cs.set j E)))=aI out π h:=by
  funext b;apply propext;constructor
  ·rintro(z|⟨k,x,p,h1,h2,D,J⟩)
   ·exact .inl z
   ·obtain⟨y,N,_,y3,O⟩:=old h1;exact .inr ⟨k,y,p,N,by rw[y3];exact h2,D,O _ _ J⟩
  ·rintro(U|⟨k,x,p,h1,h2,D,J⟩)
   ·exact .inl U
   ·by_cases m:k=i
    ·subst m;rw[z]at h1;cases h1;exact .inr ⟨k,.own (cs.set j E),p,List.getElem?_set_self M,rfl,D,J⟩
    ·exact .inr ⟨k,x,p,by rw[List.getElem?_set_ne (fun e=>m e.symm)];exact h1,h2,D,J⟩
 refine⟨π,⟨T.defers,?_,?_⟩,fun b z=>?_,mR.refl π⟩
 ·simp only[I];exact T.slots
 ·refine⟨by simpa using C.len,C.bound,C.out_lt,?_,?_,?_⟩
  ·intro k x p b h1 h2 D;obtain⟨y,N,_,_,O⟩:=old h1;exact C.baseO k y p b N h2 (O _ _ D)
  ·intro k x p h1 h2;simp only[I];rcases g h1 with⟨rfl,rfl⟩|⟨_,hk⟩
   ·obtain⟨o1,o2⟩:=C.ok k _ p z h2;exact⟨o1,RvC.JS (fun v hv=>hA out B w π v C hv) cs j _ _ hc o2⟩
   ·exact C.ok k x p hk h2
  ·intro k l x y p q b Y h1 h2 D J h5 h6 h7;obtain⟨x',x1,_,x3,x4⟩:=old h1;obtain⟨y',N,_,_,O⟩:=old h2;exact C.sepO k l x' y' p q b Y x1 N D J (by rw[x3];exact h5) (x4 _ _ h6) (O _ _ h7)
 ·rw[I]at z;exact z
theorem Wk.GF(i j:Nat){b len es:Nat}{cs cs':List AV}{s:List AV}{h:List Blk}(hi:h[i]?=some (.own cs'))(hc:cs'[j]?=some (.hs b 0 len es))(C:h[b]?=some (.fix cs))(hp:bL cs=[])(z:len=0->cs=[]):Wk K ⟨s,h⟩ ⟨s,h.set i (.own (cs'.set j (.sl true cs len)))⟩:=Wk.Kx i j (fun out B w π v D E=>by
 rcases E with⟨rfl,rfl⟩|⟨p,a,cap,h1,rfl,h2,m,I⟩
 ·exact .inl ⟨rfl,rfl,z rfl,rfl⟩
 ·obtain⟨g1,g2⟩:=E6 D b p cs C h1;obtain⟨ab,J,M⟩:=a;simp only at m;subst m;by_cases q:0<cap
  ·obtain⟨e1,_⟩:=I q;cases e1;exact .inr (.inl ⟨_,_,cap,rfl,h2,fun _=>g2,mf (fun _ h=>h) cs _ _ hp g1⟩)
  ·have:cs=[]:=z (by omega);subst this;exact .inr (.inl ⟨ab,J,cap,rfl,h2,fun h=>(h rfl).elim,trivial⟩)) hi hc
end
end Go.Eng
namespace Go.L
open Go Go.Eng
variable[Dr]
theorem qK{γ:Type}{i:Int}{l:List γ}{j:Nat}{v:γ}(h:inR i l.length=true):inR i (l.set j v).length=true:=by rw[List.length_set];exact h
theorem Sn.hse{H:List Blk}{ok:Nat->Bool}{b len es:Nat}{cs cs':List AV}{α:Type}{l:List α}(e:l.length=len)(j:ok b=true)(m:H[b]?=some (.own cs)\/H[b]?=some (.fix cs))(h:SnC H ok cs cs')(p:l.length=0->cs'=[]):Sn H ok (.hs b 0 len es) (.sl true cs' l.length):=by subst e;exact Sn.hs j m h p
end Go.L


set_option linter.all false
namespace Go.Eng
open Go Go.RowKit
variable[Dr]
theorem Hy{k:IntKind}{xs:List Int}{j:Int}(h:inR j xs.length=true):(xs.flatMap (iC k))[j.toNat]?=some (.at (.int k (gt xs j))):=
 aS (c:=iC k) (es:=1) (i:=j.toNat) (k:=0) (aP k) (aM h) (by omega) (by omega) rfl
theorem Bc{k:IntKind}{cs:List AV}{xs:List Int}{j:Int}{o kk:Nat}(h:inR j xs.length=true)(m:o=kk+j.toNat*1)(p:(cs.drop kk).take xs.length=xs.flatMap (iC k)):cs[o]?=some (.at (.int k (gt xs j))):=by
 have h1:=aM h;have h2:=Hy (k:=k) h;rw[<-p,List.getElem?_take,if_pos h1,List.getElem?_drop]at h2;rw[m,Nat.mul_one];exact h2
section
variable{α:Type}{c:α->List AV}{es:Nat}{l:List α}
theorem Sn.to{H:List Blk}{ok:Nat->Bool}{A m j:AV}(h:Sn H ok A m)(k:∀(w:World) (mu:Nat->Prop) (π:List (Option PB)) (u:Value),Rv w mu π m u->Rv w mu π j u):Sn H ok A j:=fun w mu mu' π v p hm q=>k _ _ _ _ (h w mu mu' π v p hm q)
end
section
variable{P:Program}{ρ:Operand->AV}{H:List Blk}{nid:Nat}{dst:Option Tmp}{ty t u:TypeId}{pos:String}{after:Array Edge}{g:Option (Nat×Bool)}{a b:Operand}{k k':IntKind}{x y:Int}
end
theorem CQ.nh{K:Nat}{P:Program}{k:List Fr}{F:X->St->Prop}{d:Code}{s:List AV}{h:List Blk}(j:List Nat)(m:List Blk)(hk:CQ K P (.c d::k) F .normal ⟨nH j s 0,m⟩)(e2:h=m:=by kernel_rfl):CQ K P (.c d::k) F .normal ⟨s,h⟩:=CQ.norm j rfl e2 hk
def wM(s:List AV):List (Nat×AV)->List AV
 |[]=>s
 |(i,x)::q=>wM (s.set i x) q
theorem CQ.r4{K:Nat}{P:Program}{k:List Fr}{F:X->St->Prop}{d:Code}{s:List AV}{h:List Blk}{i:Nat}{l:List Oper}(G:oW P)(j:List Nat)(q:List (Nat×AV))(hk:CQ K P (.c d::k) F .normal ⟨wM (nH j s 0) q,h⟩)(e:Cu P l s h (j++q.map (·.1))=some ⟨wM (nH j s 0) q,h⟩:=by kernel_rfl):CQ K P (.c (.region i l.toArray false)::.c d::k) F .normal ⟨s,h⟩:=CQ.rn G _ _ _ hk e
theorem CQ.r5{K:Nat}{P:Program}{k:List Fr}{F:X->St->Prop}{d:Code}{s:List AV}{h:List Blk}{i:Nat}{l:List Oper}(G:oW P)(j:List Nat)(q:List (Nat×AV))(m:List Blk)(hk:CQ K P (.c d::k) F .normal ⟨wM (nH j s 0) q,m⟩)(e:Cu P l s h (j++q.map (·.1))=some ⟨wM (nH j s 0) q,m⟩:=by kernel_rfl):CQ K P (.c (.region i l.toArray false)::.c d::k) F .normal ⟨s,h⟩:=CQ.rn G _ _ _ hk e
theorem oi{α:Type}{x y:α}(h:some x=some y):x=y:=Option.some.inj h
theorem tr{α:Type}{x y z:α}(h:y=z)(j:x=y:=by kernel_rfl):x=z:=j.trans h
theorem eB{x:Option bj}{e b:Bool}(h:e=b)(j:x=some (.pure (.at (.bool e))):=by kernel_rfl):x=some (.pure (.at (.bool b))):=by rw[j,h]
section
variable{P:Program}{call:dw}{ops rest:List Oper}{o:Oper}{s:List AV}{h:List Blk}{K:List AV->List Blk->Prop}{KT:List AV->List Blk->List Ent->Prop}
theorem EVO.pk{v:AV}(he:evalOp P (evA s) h h.length o=some (.pure v))(hk:EVO P call ops rest (fQ s o.dst v) h K)(hw:cH ops o s=some true:=by kernel_rfl):EVO P call ops (o::rest) s h K:=EVO.pure hw he hk
theorem EVO.ek{v:AV}{ws:List (Nat×Blk)}(he:evalOp P (evA s) h h.length o=some (.eff v ws))(hk:EVO P call ops rest (fQ s o.dst v) (aN h ws) K)(hw:cH ops o s=some true:=by kernel_rfl):EVO P call ops (o::rest) s h K:=EVO.eff hw he hk
theorem EVT.pk{v:AV}(he:evalOp P (evA s) h h.length o=some (.pure v))(hk:EVT P call ops rest (fQ s o.dst v) h (fun m p es=>KT m p (tf o s h v []::es)))(hw:cH ops o s=some true:=by kernel_rfl)(j:lT h.length (tf o s h v [])=true:=by kernel_rfl):EVT P call ops (o::rest) s h KT:=EVT.pure hw he j hk
theorem EVT.ek{v:AV}{ws:List (Nat×Blk)}(he:evalOp P (evA s) h h.length o=some (.eff v ws))(hk:EVT P call ops rest (fQ s o.dst v) (aN h ws) (fun m p es=>KT m p (tf o s h v ws::es)))(hw:cH ops o s=some true:=by kernel_rfl)(j:lT h.length (tf o s h v ws)=true:=by kernel_rfl):EVT P call ops (o::rest) s h KT:=EVT.eff hw he j hk
end
theorem oj{α:Type}{x y:α}(h:some x=some y):y=x:=(Option.some.inj h).symm
theorem gS{α:Type _}{a b:α}:(some a).getD b=a:=rfl
theorem bT(b:Bool):b=true\/b=false:=Bool.eq_false_or_eq_true b
theorem Sp{H:List Blk}{ok:Nat->Bool}{A:AV}{m j:List AV}(k:SnL H ok m j)(h:kb A=[]:=by exact rfl):SnL H ok (A::m) (A::j):=SnL.cons (Sn.pure h) k
abbrev kT3:List (Nat×Bool):=[(0,true),(1,true),(2,true)]
abbrev kT4:List (Nat×Bool):=[(0,true),(1,true),(2,true),(3,true)]
abbrev kF3:List (Nat×Bool):=[(0,false),(1,false),(2,false)]
theorem z1:0<1:=by decide
theorem kRf{p:Prop}(h:p:=by kernel_rfl):p:=h
theorem kRa{p q:Prop}(k:q)(h:p:=by kernel_rfl):p/\q:=⟨h,k⟩
theorem CQ.sh{K:Nat}{P:Program}{k:List Fr}{F:X->St->Prop}{x:X}{s:List AV}{h:List Blk}(c:CQ K P k F x ⟨s,h⟩):CQ K P k F x ⟨s,h⟩:=c
end Go.Eng

