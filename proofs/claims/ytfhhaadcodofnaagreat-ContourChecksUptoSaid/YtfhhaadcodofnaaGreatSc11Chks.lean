import Derived.Test.YtfhhaadcodofnaaGreatSc6Chks
import Derived.KernelRfl
import Derived.Scope
set_option linter.all false
namespace Go.Eng
open Go Go.RowKit
variable[Dr]
variable{K:Nat}{P:Program}
def bO(K:Nat)(P:Program)(f:FuncId)(args:List AV)(j:List Blk)(r:AV)(H1:List Blk):Prop:=
 ∀(out:Nat->Prop) (B:Nat->Prop) (w:World) (π:List (Option PB)) (vs:List Value),Inv out B w π j->RvL w (aL out π j) π args vs->
  Calls P f vs.toArray w fun e w'=>∃u π',e=.returned u/\EK K B w w' (aL out π j) (aL out π' H1) π π'/\Inv out B w' π' H1/\Rv w' (aL out π' H1) π' r u
theorem HB{w:World}{mu:Nat->Prop}{π:List (Option PB)}:∀{vs:List AV} {u:Value},Rv w mu π (jv vs) u->∃l:List Value,RvL w mu π vs l/\∀(w':World) (mu':Nat->Prop) (π':List (Option PB)) (us:List AV),RvL w' mu' π' us l->Rv w' mu' π' (jv us) u
 |[],u,h=>by
  obtain⟨a,rfl,h⟩:=h;have q:a.toList=[]:=h;refine⟨[],rfl,fun w' mu' π' us j=>?_⟩;cases us with
  |nil=>exact⟨a,rfl,q⟩
  |cons x us=>obtain⟨v,m,e,_⟩:=j;cases e
 |[v],u,h=>by
  refine⟨[u],⟨u,[],rfl,h,rfl⟩,fun w' mu' π' us j=>?_⟩;cases us with
  |nil=>cases j
  |cons x us=>
   obtain⟨C,m,e,h1,h2⟩:=j;cases e;cases us with
   |nil=>exact h1
   |cons y us=>obtain⟨_,_,e,_⟩:=h2;cases e
 |v1::v2::vs,u,h=>by
  obtain⟨a,rfl,h⟩:=h;refine⟨a.toList,h,fun w' mu' π' us j=>?_⟩;obtain⟨x1,l1,e1,_,x2,l2,e2,_⟩:=h;cases us with
  |nil=>rw[e1]at j;cases j
  |cons D us=>
   cases us with
   |nil=>
    obtain⟨z,E,e,_,h2⟩:=j;rw[e1]at e;cases e;rw[e2]at h2;cases h2
   |cons I us=>exact⟨a,rfl,j⟩
def B1(K:Nat)(P:Program)(rs:List ResultVar)(us:List AV)(H1:List Blk):X->St->Prop
 |.exit _,_=>False
 |_,st=>∃vs,eZ P st rs=some vs/\Wk K ⟨vs,st.heap⟩ ⟨us,H1⟩
theorem B1.ret{rs:List ResultVar}{us:List AV}{H1:List Blk}{st:St}(vs:List AV)(k:Wk K ⟨vs,st.heap⟩ ⟨us,H1⟩)(h:eZ P st rs=some vs:=by kernel_rfl):B1 K P rs us H1 .ret st:=⟨vs,h,k⟩
theorem B1.normal{rs:List ResultVar}{us:List AV}{H1:List Blk}{st:St}(vs:List AV)(k:Wk K ⟨vs,st.heap⟩ ⟨us,H1⟩)(h:eZ P st rs=some vs:=by kernel_rfl):B1 K P rs us H1 .normal st:=⟨vs,h,k⟩
theorem bO.body(G:rA P){f:FuncId}{fn:Func}(J:P.funcs[f]?=some fn){c:Code}(hb:fn.body=some c){args us:List AV}{q H1:List Blk}{s:List AV}{rs:List ResultVar}(hs:args++rq (fn.ntmps-args.length)=s)(z:fn.results.toList=rs)
  (h:CQ K P [.c c] (B1 K P rs us H1) .normal ⟨s,q⟩):bO K P f args q (jv us) H1:=by
 intro out B w π vs N ha;subst hs;subst z;refine calls_of_wp J hb ?_;have hlen:=RvL.length _ _ ha;have O:Rep out B w π ⟨args++rq (fn.ntmps-args.length),q⟩ {tmps:=vs.toArray++Array.replicate (fn.ntmps-vs.toArray.size) undef,defers:=[]}:=by
  refine⟨rfl,?_,N⟩;simp only[Array.toList_append,Array.toList_replicate,List.size_toArray,hlen];refine RvL.append _ _ _ _ ha ?_;refine RvL.oC _ _ (by simp[rq]) fun i x y h1 h2=>?_
  have:=List.mem_of_getElem? h1;simp[rq]at this;rw[this.2];trivial
 refine h out B w π _ _ O fun x st' a' w' π' C m T=>?_
 have fin:∀j,eZ P st' fn.results.toList=some j->Wk K ⟨j,st'.heap⟩ ⟨us,H1⟩->∃u,(results fn a'.tmps).run P w'=.ok u w'/\∃E π2,(Ending.returned u)=.returned E/\EK K B w w' (aL out π q) (aL out π2 H1) π π2/\Inv out B w' π2 H1/\Rv w' (aL out π2 H1) π2 (jv us) E:=by
  intro j U D;obtain⟨u,r1,r2⟩:=nv m U;obtain⟨l,l1,l2⟩:=HB r2;obtain⟨π2,I,Y,k3⟩:=D out B w' π' {tmps:=l.toArray,defers:=[]} ⟨rfl,l1,m.inv⟩;exact⟨u,r1,u,π2,rfl,T.trans (EK.less Y k3),I.inv,l2 _ _ _ _ I.slots⟩
 cases x with
 |normal=>obtain⟨j,h1,h2⟩:=C;exact⟨m.defers,fin j h1 h2⟩
 |ret=>obtain⟨j,h1,h2⟩:=C;exact⟨m.defers,fin j h1 h2⟩
 |exit id=>exact C.elim
theorem gT.De{w:World}{mu:Nat->Prop}{π:List (Option PB)}{p:PB}{x:Blk}(h:x.isLive=false):gT w mu π p x:=by
 cases x with
 |dead=>trivial
 |own cs=>cases h
 |fix cs=>cases h
 |map es=>cases h
 |iter m n seen=>cases h
 |rows rs=>cases h
set_option maxHeartbeats 1000000
theorem yp:∀(ws:List (Nat×Blk)) (H:List Blk),(∀q∈ws,q.1<H.length)->(aR H ws).length=H.length
 |[],H,_=>rfl
 |(j,b)::ws,H,h=>by
  have z:=h (j,b) (by simp);have m:(upd H j b).length=H.length:=by rw[dD (by omega),if_neg (by simp only at z;omega)]
  simp only[aR];rw[yp ws (upd H j b) (fun q C=>by rw[m];exact h q (by simp[C])),m]
theorem tS:∀(ws:List (Nat×Blk)) (H:List Blk) (j:Nat),(∀q∈ws,q.1<H.length)->(∀b,(j,b)∉ws)->(aR H ws)[j]?=H[j]?
 |[],H,_,_,_=>rfl
 |(i,b)::ws,H,j,h,m=>by
  have z:=h (i,b) (by simp);simp only at z;have C:(upd H i b).length=H.length:=by rw[dD (by omega),if_neg (by omega)]
  simp only[aR];rw[tS ws (upd H i b) j (fun q D=>by rw[C];exact h q (by simp[D])) (fun x hx=>m x (by simp[hx])),gr (by omega),if_neg];rintro rfl;exact m b (by simp)
theorem zD:∀(ws:List (Nat×Blk)) (H:List Blk) (j:Nat) (b:Blk),(∀q∈ws,q.1<H.length)->(ws.map (·.1)).Nodup->(j,b)∈ws->(aR H ws)[j]?=some b
 |[],_,_,_,_,_,h=>by simp at h
 |(i,x)::ws,H,j,b,h,C,hm=>by
  have D:=h (i,x) (by simp);simp only at D;have E:(upd H i x).length=H.length:=by rw[dD (by omega),if_neg (by omega)]
  have z:=List.nodup_cons.1 (by simpa using C:(i::ws.map (·.1)).Nodup);simp only[aR];have m:∀q∈ws,q.1<(upd H i x).length:=fun q I=>by rw[E];exact h q (by simp[I])
  rcases List.mem_cons.1 hm with e|hm
  ·obtain⟨rfl,rfl⟩:=Prod.mk.inj e;rw[tS ws _ j m (fun y J=>z.1 (List.mem_map.2 ⟨(j,y),J,rfl⟩)),gr (by omega),if_pos rfl]
  ·exact zD ws _ j b m z.2 hm
theorem xZ:∀(l:List (Nat×Bool)),rr l=true->(l.map (·.1)).Nodup
 |[],_=>List.nodup_nil
 |(b,t)::l,h=>by
  simp only[rr,Bool.and_eq_true]at h;obtain⟨h1,h2⟩:=h;have m:posOf l b 0=none:=by
   cases hb:posOf l b 0 with
   |none=>rfl
   |some c=>rw[hb]at h1;cases h1
  refine List.nodup_cons.2 ⟨fun hm=>?_,xZ l h2⟩;obtain⟨q,z,he⟩:=List.mem_map.1 hm;obtain⟨j,C⟩:=List.getElem?_of_mem z;exact rB l b 0 m j q.2 (by rw[C];exact congrArg some (Prod.ext he rfl))
def y6(K:Nat)(keep:List (Nat×Bool))(n m:Nat):List Nat:=(keep.take K).map (·.1)++List.range' n m
def yP(ρ:Nat->Option Nat):List Nat->List Bool->List Blk->List (Nat×Blk)
 |j::m,t::q,x::xs=>(j,rfB ρ t x)::yP ρ m q xs
 |_,_,_=>[]
def w7:List (Nat×Bool)->List (Nat×Blk)
 |[]=>[]
 |(b,_)::l=>(b,.dead)::w7 l
def DF(K:Nat)(keep:List (Nat×Bool))(n m:Nat)(j:List Bool)(H1:List Blk):List (Nat×Blk):=
 yP (fun k=>(y6 K keep n m)[k]?) (y6 K keep n m) j H1++w7 (keep.drop K)
def yl:List Bool->List Blk->Prop
 |false::j,x::xs=>yc (some x)/\yl j xs
 |true::j,_::xs=>yl j xs
 |_,_=>True
theorem Bk(ρ:Nat->Option Nat):∀(m:List Nat) (q:List Bool) (xs:List Blk),m.length=xs.length->q.length=xs.length->(yP ρ m q xs).map (·.1)=m
 |[],[],[],_,_=>rfl
 |j::m,t::q,x::xs,h1,h2=>by simp only[yP,List.map_cons];rw[Bk ρ m q xs (by simpa using h1) (by simpa using h2)]
 |[],_::_,_,h1,h2=>by cases (List.eq_nil_of_length_eq_zero (by simpa using h1.symm));simp at h2
 |_::_,[],_,h1,h2=>by cases (List.eq_nil_of_length_eq_zero (by simpa using h2.symm));simp at h1
 |[],[],_::_,h1,_=>by simp at h1
 |_::_,_::_,[],h1,_=>by simp at h1
theorem BM(ρ:Nat->Option Nat):∀(m:List Nat) (q:List Bool) (xs:List Blk) (j:Nat) (b:Blk),(j,b)∈yP ρ m q xs->∃(k:Nat) (t:Bool) (x:Blk),m[k]?=some j/\q[k]?=some t/\xs[k]?=some x/\b=rfB ρ t x
 |[],_,_,_,_,h=>by simp[yP]at h
 |_::_,[],_,_,_,h=>by simp[yP]at h
 |_::_,_::_,[],_,_,h=>by simp[yP]at h
 |I::m,t::q,x::xs,j,b,h=>by
  simp only[yP,List.mem_cons,Prod.mk.injEq]at h;rcases h with⟨rfl,rfl⟩|h
  ·exact⟨0,t,x,rfl,rfl,rfl,rfl⟩
  ·obtain⟨k,z,C,h1,h2,D,E⟩:=BM ρ m q xs j b h;exact⟨k+1,z,C,by simpa using h1,by simpa using h2,by simpa using D,E⟩
theorem zN:∀l:List (Nat×Bool),(w7 l).map (·.1)=l.map (·.1)
 |[]=>rfl
 |(b,t)::l=>by simp only[w7,List.map_cons,zN l]
theorem zQ:∀(l:List (Nat×Bool)) (j:Nat) (b:Blk),(j,b)∈w7 l->b=.dead
 |[],_,_,h=>by simp[w7]at h
 |(i,t)::l,j,b,h=>by
  simp only[w7,List.mem_cons,Prod.mk.injEq]at h;rcases h with⟨_,rfl⟩|h
  ·rfl
  ·exact zQ l j b h
theorem wz:∀(j:List Bool) (xs:List Blk) (k:Nat) (x:Blk),yl j xs->j[k]?=some false->xs[k]?=some x->yc (some x)
 |[],_,k,x,_,h,_=>by simp at h
 |_::_,[],k,x,_,_,h=>by simp at h
 |false::j,y::xs,0,x,hp,_,h=>by simp at h;subst h;exact hp.1
 |false::j,y::xs,k+1,x,hp,h1,h2=>wz j xs k x hp.2 (by simpa using h1) (by simpa using h2)
 |true::j,y::xs,0,x,hp,h,_=>by simp at h
 |true::j,y::xs,k+1,x,hp,h1,h2=>wz j xs k x hp (by simpa using h1) (by simpa using h2)
theorem zR{H H':List Blk}{keep:List (Nat×Bool)}:∀(l:List (Nat×Bool)),(∀q∈l,H'[q.1]?=H[q.1]?)->rnH H' keep l=rnH H keep l
 |[],_=>rfl
 |(b,t)::l,h=>by
  simp only[rnH];rw[h (b,t) (by simp),zR l fun q j=>h q (by simp[j])]
theorem sy{H H':List Blk}:∀(l:List (Nat×Bool)),(∀q∈l,H'[q.1]?=H[q.1]?)->mh H l->mh H' l
 |[],_,_=>trivial
 |(b,false)::l,h,hp=>⟨by rw[h (b,false) (by simp)];exact hp.1,sy l (fun q j=>h q (by simp[j])) hp.2⟩
 |(b,true)::l,h,hp=>sy l (fun q j=>h q (by simp[j])) hp
theorem yO{f:FuncId}{args b3:List AV}{H H0 H1:List Blk}{r v:AV}{ws:List (Nat×Blk)}{m:Nat}{rd:List Nat}(K:Nat)(keep:List (Nat×Bool))(ts:List Bool)(e8:bO K P f b3 H0 r H1)
  (hpure:mh H keep) (l6:yl ts H1) (j2:H1.length=K+m) (j3:ts.length=H1.length)
  (hn:rr keep=true:=by kernel_rfl) (j4:keep.all (fun q=>Nat.blt q.1 H.length)=true:=by kernel_rfl) (hK:Nat.ble K keep.length=true:=by kernel_rfl)
  (j5:rnL keep args=b3:=by kernel_rfl) (hH:rnH H keep keep=H0:=by kernel_rfl)
  (hv:rfA (fun k=>(y6 K keep H.length m)[k]?) r=v:=by kernel_rfl) (l7:DF K keep H.length m ts H1=ws:=by kernel_rfl) (l8:keep.map (·.1)=rd:=by kernel_rfl):jh P f args H (.loc v ws rd m):=by
 intro H' hlen l9 out B w π vs J hπ ha;subst l8 hH j5;have hK:K<=keep.length:=lbT hK;have O:∀q∈keep,q.1<H.length:=fun q I=>by have:=List.all_eq_true.1 j4 q I;simpa [Nat.blt_eq]using this
 have e9:∀q∈keep,H'[q.1]?=H[q.1]?:=fun q I=>l9 q.1 (List.mem_map.2 ⟨q,I,rfl⟩) (O q I)
 rw[<-zR keep e9]at e8;have c0:=sy keep e9 hpure;have h8:=xZ keep hn;have hl:=J.len;obtain⟨π0,hπ0⟩:∃π0:List (Option PB),π0=keep.map fun q=>(π[q.1]?).getD none:=⟨_,rfl⟩
 have hπm:∀b c p,posOf keep b 0=some c->π[b]?=some (some p)->π0[c]?=some (some p):=by
  intro b c p h1 h2;obtain⟨j,t,rfl,C⟩:=wN keep b 0 c h1;rw[hπ0,List.getElem?_map,Nat.zero_add,C];simp[h2]
 have back:∀{j:Nat} {x:Blk} {p:PB},(rnH H' keep keep)[j]?=some x->x.isLive=true->π0[j]?=some (some p)->∃b t y,keep[j]?=some (b,t)/\H'[b]?=some y/\rfB (fun b=>posOf keep b 0) t y=x/\π[b]?=some (some p):=by
  intro j x p h1 h2 C;obtain⟨b,t,y,g1,g2,g3⟩:=Ai keep j x h1 h2;refine⟨b,t,y,g1,g2,g3,?_⟩;rw[hπ0,List.getElem?_map,g1]at C;simp only[Option.map_some,Option.some.injEq]at C;cases hb:π[b]? with
  |none=>rw[hb]at C;cases C
  |some q=>rw[hb]at C;simp only[Option.getD_some]at C;rw[C]
 have b4:∀{j b:Nat} {t:Bool},keep[j]?=some (b,t)->b∈keep.map (·.1):=fun h=>List.mem_map.2 ⟨_,List.mem_of_getElem? h,rfl⟩
 obtain⟨T,E⟩:∃o:Nat->Prop,o=fun b=>out b\/∃(i:Nat) (x:Blk) (p:PB),H'[i]?=some x/\x.iA=true/\i∉keep.map (·.1)/\π[i]?=some (some p)/\x.owns p b:=⟨_,rfl⟩
 obtain⟨Q0,b5⟩:∃Q:Nat->Prop,Q=fun b=>b<w.heap.size/\¬∃(k:Nat) (x:Blk) (p:PB),(rnH H' keep keep)[k]?=some x/\x.isLive=true/\π0[k]?=some (some p)/\x.owns p b:=⟨_,rfl⟩
 have c3:∀b,aL T π0 (rnH H' keep keep) b->aL out π H' b:=by
  rintro b (ho|⟨j,x,p,e1,e2,U,e4⟩)
  ·rw[E]at ho;rcases ho with ho|⟨i,x,p,g1,g2,_,g3,g4⟩
   ·exact .inl ho
   ·exact .inr ⟨i,x,p,g1,g2,g3,g4⟩
  ·obtain⟨b',t,y,g1,g2,g3,g4⟩:=back e1 (Blk.dz e2) U;exact .inr ⟨b',y,p,g2,qS (by rw[g3];exact e2),g4,gz (by rw[g3];exact e4)⟩
 have j6:∀b,B b->Q0 b:=by
  intro b hb;rw[b5];refine⟨J.bound b hb,?_⟩;rintro⟨k,x,p,e1,e2,U,e4⟩;obtain⟨b',t,y,g1,g2,g3,g4⟩:=back e1 e2 U;exact(J.baseO b' y p b g2 g4 (gz (by rw[g3];exact e4))).1 hb
 have k0:Inv T Q0 w π0 (rnH H' keep keep):=by
  refine⟨by rw[hπ0,List.length_map];exact(uG keep).symm,fun b hb=>by rw[b5]at hb;exact hb.1,?_,?_,?_,?_⟩
  ·intro b hb;rw[E]at hb;rcases hb with hb|⟨i,x,p,g1,g2,g3,g4,g5⟩
   ·exact j6 b (J.out_lt b hb)
   ·rw[b5];refine⟨(J.baseO i x p b g1 g4 g5).2,?_⟩;rintro⟨k,y,q,e1,e2,U,e4⟩;obtain⟨b',t,z,k1,k2,k3,k4⟩:=back e1 e2 U;refine J.sepO i b' x z p q b ?_ g1 k2 g4 k4 g2 g5 (gz (by rw[k3];exact e4));rintro rfl;exact g3 (b4 k1)
  ·intro j x p b0 e1 e2 U;refine⟨fun I=>?_,?_⟩
   ·rw[b5]at I;exact I.2 ⟨j,x,p,e1,Blk.gJ U,e2,U⟩
   ·obtain⟨b,t,y,g1,g2,g3,g4⟩:=back e1 (Blk.gJ U) e2;exact(J.baseO b y p b0 g2 g4 (gz (by rw[g3];exact U))).2
  ·intro j x p e1 e2;cases hx:x.isLive with
   |false=>exact gT.De hx
   |true=>
    obtain⟨b,t,y,g1,g2,g3,g4⟩:=back e1 hx e2;have n0:=J.ok b y p g2 g4;subst g3;exact Co c3 hπm (fun ht=>by subst ht;have:=tC keep c0 j b g1;rw[g2]at this;exact this) n0
  ·intro i j x y p q b0 c4 e1 e2 U e4 e5 e6 e7;obtain⟨b,t,z,g1,g2,g3,g4⟩:=back e1 (Blk.dz e5) U;obtain⟨b',t',z',k1,k2,k3,k4⟩:=back e2 (Blk.gJ e7) e4;refine J.sepO b b' z z' p q b0 ?_ g2 k2 g4 k4 (qS (by rw[g3];exact e5)) (gz (by rw[g3];exact e6)) (gz (by rw[k3];exact e7));rintro rfl;exact c4 (tp keep hn i j b t t' g1 k1)
 refine(e8 T Q0 w π0 vs k0 (uF c3 hπm args _ ha)).mono ?_;rintro e w' ⟨u,π1,rfl,hE,N,hr⟩;obtain⟨D,a7⟩:∃D,D=y6 K keep H.length m:=⟨_,rfl⟩;have n1:D.length=K+m:=by rw[a7];simp only[y6,List.length_append,List.length_map,List.length_take,List.length_range'];omega
 have c5:∀k,k<K->∃t,keep[k]?=some (D[k]?.getD 0,t)/\D[k]?=some (D[k]?.getD 0):=by
  intro k hk;have c6:k<keep.length:=by omega
  refine⟨keep[k].2,?_⟩;have:D[k]?=some keep[k].1:=by
   rw[a7,y6,List.getElem?_append_left (by simp;omega),List.getElem?_map,List.getElem?_take,if_pos hk,geT c6];rfl
  rw[this];simp[geT c6]
 have j7:∀k,K<=k->k<K+m->D[k]?=some (H.length+(k-K)):=by
  intro k h1 h2;rw[a7,y6,List.getElem?_append_right (by simp;omega)];have:(List.map (fun x:Nat×Bool=>x.1) (List.take K keep)).length=K:=by simp;omega
  rw[this,List.getElem?_range' (by omega)];simp
 have h9:D.Nodup:=by
  rw[a7,y6,List.nodup_append];refine⟨?_,List.nodup_range',?_⟩
  ·rw[List.map_take];exact List.Sublist.nodup (List.take_sublist _ _) h8
  ·rintro a j8 b hb rfl;obtain⟨q,I,rfl⟩:=List.mem_map.1 j8;have h1:=O q (List.mem_of_mem_take I);have:=(List.mem_range'_1.1 hb).1;omega
 have j9:∀{i j c:Nat},D[i]?=some c->D[j]?=some c->i=j:=by
  intro i j c h1 h2;have hi:=aT h1;have Y:=aT h2;rw[geT hi]at h1;rw[geT Y]at h2;exact(List.getElem_inj h9).1 (by rw[Option.some.inj h1,Option.some.inj h2])
 have c7:(yP (fun k=>D[k]?) D ts H1).map (·.1)=D:=Bk _ _ _ _ (by rw[n1,j2]) j3;rw[<-a7]at hv;have j0:ws=yP (fun k=>D[k]?) D ts H1++w7 (keep.drop K):=by rw[<-l7,DF,<-a7]
 have b6:ws.map (·.1)=D++(keep.drop K).map (·.1):=by rw[j0,List.map_append,c7,zN]
 have k6:(ws.map (·.1)).Nodup:=by
  rw[b6,List.nodup_append];refine⟨h9,?_,?_⟩
  ·rw[List.map_drop];exact List.Sublist.nodup (List.drop_sublist _ _) h8
  ·rintro a j8 b hb rfl;obtain⟨k,hk⟩:=List.getElem?_of_mem j8;obtain⟨q,I,rfl⟩:=List.mem_map.1 hb;obtain⟨i,hi⟩:=List.getElem?_of_mem I;rw[List.getElem?_drop]at hi;by_cases a8:k<K
   ·obtain⟨t,g1,g2⟩:=c5 k a8;rw[hk]at g1;have:=tp keep hn k (K+i) _ t q.2 g1 (by rw[hi];rfl);omega
   ·have k7:=aT hk;rw[j7 k (by omega) (by omega)]at hk;have:=O q (List.mem_of_getElem? hi);have:=Option.some.inj hk;omega
 have a6:∀q∈ws,q.1<H'.length:=by
  intro q I;have:q.1∈ws.map (·.1):=List.mem_map.2 ⟨q,I,rfl⟩;rw[b6]at this;rcases List.mem_append.1 this with h|h
  ·obtain⟨k,hk⟩:=List.getElem?_of_mem h;by_cases a8:k<K
   ·obtain⟨t,g1,g2⟩:=c5 k a8;rw[hk]at g1;have:=O _ (List.mem_of_getElem? g1);simp only[Option.getD_some]at this;omega
   ·have k7:=aT hk;rw[j7 k (by omega) (by omega)]at hk;have:=Option.some.inj hk;omega
  ·obtain⟨x,hx,e⟩:=List.mem_map.1 h;have:=O x (List.mem_of_mem_drop hx);omega
 obtain⟨H2,b1⟩:∃H2,H2=aR H' ws:=⟨_,rfl⟩;have k8:H2.length=H'.length:=by rw[b1];exact yp ws H' a6
 have k9:∀{k j:Nat},D[k]?=some j->j<π.length:=by
  intro k j hk;have:j∈ws.map (·.1):=by rw[b6];exact List.mem_append.2 (.inl (List.mem_of_getElem? hk))
  obtain⟨q,I,rfl⟩:=List.mem_map.1 this;have:=a6 q I;omega
 have hex:∀j:Nat,∃o:Option PB,(∀k:Nat,D[k]?=some j->o=(π1[k]?).getD none)/\(j∉D->o=(π[j]?).getD none):=by
  intro j;by_cases Y:j∈D
  ·obtain⟨k,hk⟩:=List.getElem?_of_mem Y;exact⟨(π1[k]?).getD none,fun k' c6=>by rw[j9 hk c6],fun h=>(h Y).elim⟩
  ·exact⟨(π[j]?).getD none,fun k hk=>(Y (List.mem_of_getElem? hk)).elim,fun _=>rfl⟩
 obtain⟨g,hg⟩:=Classical.axiomOfChoice hex;obtain⟨π2,hπ2⟩:∃π2:List (Option PB),π2=(List.range π.length).map g:=⟨_,rfl⟩;have ol:π2.length=π.length:=by rw[hπ2];simp
 have oi:∀{k j:Nat},D[k]?=some j->π2[j]?=some ((π1[k]?).getD none):=by
  intro k j hk;rw[hπ2,List.getElem?_map,List.getElem?_range (k9 hk),Option.map_some,(hg j).1 k hk]
 have oo:∀{j:Nat},j∉D->π2[j]?=π[j]?:=by
  intro j Y;by_cases hl:j<π.length
  ·rw[hπ2,List.getElem?_map,List.getElem?_range hl,Option.map_some,(hg j).2 Y,geT hl,Option.getD_some]
  ·rw[List.getElem?_eq_none (by omega),List.getElem?_eq_none (by omega)]
 have a1:∀(b c:Nat) (q:PB),D[b]?=some c->π1[b]?=some (some q)->π2[c]?=some (some q):=by
  intro b c q hb I;rw[oi hb,I];rfl
 have l0:∀(i:Nat) (p:PB),π[i]?=some (some p)->π2[i]?=some (some p):=by
  intro i p h;by_cases hi:i∈D
  ·obtain⟨k,hk⟩:=List.getElem?_of_mem hi;by_cases a8:k<K
   ·obtain⟨t,g1,g2⟩:=c5 k a8;rw[hk]at g1;simp only[Option.getD_some]at g1;have:π0[k]?=some (some p):=by rw[hπ0,List.getElem?_map,g1];simp[h]
    exact a1 k i p hk (hE.pin k a8 p this)
   ·have k7:=aT hk;rw[j7 k (by omega) (by omega)]at hk;obtain rfl:=Option.some.inj hk;exact(hπ _ (by omega) (by omega) p h).elim
  ·rw[oo hi];exact h
 have key:∀(j:Nat) (x:Blk) (p:PB),H2[j]?=some x->x.isLive=true->π2[j]?=some (some p)->
   (j∉keep.map (·.1)/\H'[j]?=some x/\π[j]?=some (some p))\/∃(k:Nat) (t:Bool) (y:Blk),D[k]?=some j/\ts[k]?=some t/\H1[k]?=some y/\x=rfB (fun k=>D[k]?) t y/\π1[k]?=some (some p):=by
  intro j x p h1 h2 C;by_cases Y:∃b,(j,b)∈ws
  ·obtain⟨b,hb⟩:=Y;have e:=zD ws H' j b a6 k6 hb;rw[<-b1,h1]at e;cases e;rw[j0]at hb;rcases List.mem_append.1 hb with hb|hb
   ·obtain⟨k,t,y,g1,g2,g3,g4⟩:=BM _ _ _ _ _ _ hb;refine .inr ⟨k,t,y,g1,g2,g3,g4,?_⟩;rw[oi g1]at C;cases hk:π1[k]? with
    |none=>rw[hk]at C;cases C
    |some q=>rw[hk]at C;simpa using C
   ·have:=zQ _ _ _ hb;subst this;cases h2
  ·have Y:∀b,(j,b)∉ws:=fun b hb=>Y ⟨b,hb⟩
   rw[b1,tS ws H' j a6 Y]at h1;have b7:j∉ws.map (·.1):=fun hm=>by
    obtain⟨q,I,rfl⟩:=List.mem_map.1 hm;exact Y q.2 I
   rw[b6]at b7;have l1:j∉D:=fun h=>b7 (List.mem_append.2 (.inl h))
   have n2:j∉(keep.drop K).map (·.1):=fun h=>b7 (List.mem_append.2 (.inr h))
   refine .inl ⟨fun hm=>?_,h1,?_⟩
   ·obtain⟨q,I,rfl⟩:=List.mem_map.1 hm;obtain⟨i,hi⟩:=List.getElem?_of_mem I;by_cases n3:i<K
    ·obtain⟨t,g1,g2⟩:=c5 i n3;rw[hi]at g1;have e:q.1=D[i]?.getD 0:=by rw[Option.some.inj g1]
     rw[<-e]at g2;exact l1 (List.mem_of_getElem? g2)
    ·refine n2 (List.mem_map.2 ⟨q,?_,rfl⟩);refine List.mem_of_getElem? (i:=i-K) ?_;rw[List.getElem?_drop,show K+(i-K)=i by omega];exact hi
   ·rw[oo l1]at C;exact C
 have b8:∀b,aL out π2 H2 b->aL T π1 H1 b:=by
  rintro b (h|⟨i,x,p,h1,h2,C,h4⟩)
  ·exact .inl (by rw[E];exact .inl h)
  ·rcases key i x p h1 (Blk.dz h2) C with⟨g1,g2,g3⟩|⟨k,t,y,g1,g2,g3,g4,g5⟩
   ·exact .inl (by rw[E];exact .inr ⟨i,x,p,g2,h2,g1,g3,h4⟩)
   ·exact .inr ⟨k,y,p,g3,qS (by rw[<-g4];exact h2),g5,gz (by rw[<-g4];exact h4)⟩
 have j1:Ext B w w' (aL out π H') (aL out π2 H2) π π2:=by
  refine⟨fun b hb=>hE.low b (j6 b hb),hE.size,fun b hb n4=>?_,l0,hE.os,hE.tape,hE.output,hE.drawn⟩;obtain⟨k1,k2⟩:=hE.keep b hb (fun h=>n4 (c3 b h));exact⟨k1,fun h=>k2 (b8 b h)⟩
 have b9:∀{k:Nat} {y:Blk} {p:PB} {c:Nat},H1[k]?=some y->π1[k]?=some (some p)->y.owns p c->w.heap.size<=c\/∃(b:Nat) (z:Blk) (q:PB),b∈keep.map (·.1)/\H'[b]?=some z/\π[b]?=some (some q)/\z.owns q c:=by
  intro k y p c h1 h2 C;have c8:=(N.baseO k y p c h1 h2 C).1;rw[b5]at c8;by_cases j4:c<w.heap.size
  ·right;have c8:∃(k:Nat) (x:Blk) (q:PB),(rnH H' keep keep)[k]?=some x/\x.isLive=true/\π0[k]?=some (some q)/\x.owns q c:=Classical.byContradiction fun hc=>c8 ⟨j4,hc⟩
   obtain⟨k',x,q,e1,e2,U,e4⟩:=c8;obtain⟨b,t,z,g1,g2,g3,g4⟩:=back e1 e2 U;exact⟨b,z,q,b4 g1,g2,g4,gz (by rw[g3];exact e4)⟩
  ·exact .inl (by omega)
 have same:∀{i:Nat} {x:Blk} {p:PB} {c:Nat},i∉keep.map (·.1)->H'[i]?=some x->π[i]?=some (some p)->x.owns p c->w'.heap[c]?=w.heap[c]?:=by
  intro i x p c h0 h1 h2 C;by_cases hm:x.iA=true
  ·exact hE.low _ (k0.out_lt _ (by rw[E];exact .inr ⟨i,x,p,h1,hm,h0,h2,C⟩))
  ·refine(hE.keep c (J.baseO i x p c h1 h2 C).2 (fun h=>?_)).1;rcases c3 _ h with ho|⟨j,y,q,g1,g2,g3,g4⟩
   ·exact(J.baseO i x p c h1 h2 C).1 (J.out_lt _ ho)
   ·by_cases l2:j=i
    ·subst l2;rw[h1]at g1;cases g1;exact hm g2
    ·exact J.sepO j i y x q p c l2 g1 h1 g3 h2 g2 g4 C
 refine⟨u,π2,rfl,?_,?_,?_,?_⟩
 ·rw[<-b1];exact j1
 ·rw[<-b1];refine⟨by rw[ol,k8,hl],fun b hb=>Nat.lt_of_lt_of_le (J.bound b hb) hE.size,J.out_lt,?_,?_,?_⟩
  ·intro i x p c h1 h2 C;rcases key i x p h1 (Blk.gJ C) h2 with⟨g1,g2,g3⟩|⟨k,t,y,g1,g2,g3,g4,g5⟩
   ·have:=J.baseO i x p c g2 g3 C;exact⟨this.1,Nat.lt_of_lt_of_le this.2 hE.size⟩
   ·have l3:y.owns p c:=gz (by rw[<-g4];exact C);exact⟨fun hb=>(N.baseO k y p c g3 g5 l3).1 (j6 _ hb),(N.baseO k y p c g3 g5 l3).2⟩
  ·intro i x p h1 h2;cases hx:x.isLive with
   |false=>exact gT.De hx
   |true=>
    rcases key i x p h1 hx h2 with⟨g1,g2,g3⟩|⟨k,t,y,g1,g2,g3,g4,g5⟩
    ·exact gT.ext j1 (fun c hc=>same g1 g2 g3 hc) (J.ok i x p g2 g3)
    ·subst g4;exact Co b8 a1 (fun ht=>by subst ht;exact wz ts H1 k y l6 g2 g3) (N.ok k y p g3 g5)
  ·intro i j x y p q c c4 h1 h2 C h4 h5 h6 h7;rcases key i x p h1 (Blk.dz h5) C with⟨g1,g2,g3⟩|⟨k,t,z,g1,g2,g3,g4,g5⟩
   ·rcases key j y q h2 (Blk.gJ h7) h4 with⟨k1,k2,k3⟩|⟨k',t',z',k1,k2,k3,k4,k5⟩
    ·exact J.sepO i j x y p q c c4 g2 k2 g3 k3 h5 h6 h7
    ·have n5:z'.owns q c:=gz (by rw[<-k4];exact h7);refine(N.baseO k' z' q c k3 k5 n5).1 (N.out_lt _ ?_);rw[E];exact .inr ⟨i,x,p,g2,h5,g1,g3,h6⟩
   ·have c7:z.iA=true:=qS (by rw[<-g4];exact h5);have c9:z.owns p c:=gz (by rw[<-g4];exact h6);rcases key j y q h2 (Blk.gJ h7) h4 with⟨k1,k2,k3⟩|⟨k',t',z',k1,k2,k3,k4,k5⟩
    ·have o0:=(J.baseO j y q c k2 k3 h7).2;rcases b9 g3 g5 c9 with o1|⟨b,z2,q2,f1,f2,f3,f4⟩
     ·omega
     ·have o2:b≠j:=fun e=>k1 (e▸f1)
      by_cases l4:aL T π0 (rnH H' keep keep) c
      ·rcases l4 with ho|⟨o3,x2,p2,e1,e2,U,e4⟩
       ·exact(N.baseO k z p c g3 g5 c9).1 (N.out_lt _ ho)
       ·obtain⟨b',t2,y2,m1,m2,m3,m4⟩:=back e1 (Blk.dz e2) U;have l5:b'≠j:=fun e=>k1 (e▸b4 m1)
        exact J.sepO b' j y2 y p2 q c l5 m2 k2 m4 k3 (qS (by rw[m3];exact e2)) (gz (by rw[m3];exact e4)) h7
      ·exact(hE.keep c (by omega) l4).2 (.inr ⟨k,z,p,g3,c7,g5,c9⟩)
    ·have n9:k≠k':=by
      rintro rfl;rw[g1]at k1;exact c4 (Option.some.inj k1)
     exact N.sepO k k' z z' p q c n9 g3 k3 g5 k5 c7 c9 (gz (by rw[<-k4];exact h7))
 ·rw[<-b1,<-hv];exact yf b8 a1 r u hr
 ·intro j Y;have b7:j∉D:=fun hm=>by
   have:j∈ws.map (·.1):=by rw[b6];exact List.mem_append.2 (.inl hm)
   obtain⟨q,I,rfl⟩:=List.mem_map.1 this;exact Y q.2 I
  exact oo b7
end Go.Eng


set_option linter.unusedVariables false
namespace Go.Eng
open Go Go.RowKit
variable[Dr]
noncomputable def vf(P:Program)(call:eN)(ops l:List Oper)(s:List AV)(h:List Blk):St:=match iT P call ops l ⟨s,h⟩with|some st=>st|none=>⟨s,h⟩
noncomputable def Bh(P:Program)(call:eN)(ops l:List Oper)(s:List AV)(h:List Blk):Bool:=match iT P call ops l ⟨s,h⟩with|some _=>true|none=>false
theorem A6{P:Program}{call:eN}{ops l:List Oper}{s:List AV}{h:List Blk}(e:Bh P call ops l s h=true):iT P call ops l ⟨s,h⟩=some (vf P call ops l s h):=by
 unfold Bh at e;unfold vf;split at e
 ·rename_i st j;rw[j]
 ·cases e
section
variable{P:Program}{call:eN}{ops l:List Oper}{s:List AV}{h:List Blk}{K:List AV->List Blk->Prop}{KT:List AV->List Blk->List Ent->Prop}
theorem EVO.mu(n:Nat)(hk:EVO P call ops (l.drop n) (vf P call ops (l.take n) s h).slots (vf P call ops (l.take n) s h).heap K)(e:Bh P call ops (l.take n) s h=true:=by kernel_rfl):EVO P call ops l s h K:=by
 have:=EVO.many (l1:=l.take n) (l2:=l.drop n) (s1:=(vf P call ops (l.take n) s h).slots) (h1:=(vf P call ops (l.take n) s h).heap) (by rw[A6 e]) hk;rwa[List.take_append_drop]at this
noncomputable def Ed(P:Program)(call:eN)(ops l:List Oper)(s:List AV)(h:List Blk):St:=match gU P call ops l ⟨s,h⟩with|some (st,_)=>st|none=>⟨s,h⟩
noncomputable def Il(P:Program)(call:eN)(ops l:List Oper)(s:List AV)(h:List Blk):Bool:=match gU P call ops l ⟨s,h⟩with|some _=>true|none=>false
theorem EVT.mu(n:Nat)(hk:EVT P call ops (l.drop n) (Ed P call ops (l.take n) s h).slots (Ed P call ops (l.take n) s h).heap (fun m q es=>KT m q (GW P call ops (l.take n) s h++es)))(e:Il P call ops (l.take n) s h=true:=by kernel_rfl):EVT P call ops l s h KT:=by
 have:=EVT.many (l1:=l.take n) (l2:=l.drop n) (s1:=(Ed P call ops (l.take n) s h).slots) (h1:=(Ed P call ops (l.take n) s h).heap) (by
  unfold Il at e;unfold Ed;split at e
  ·rename_i st j;rw[j]
  ·cases e) hk
 rwa[List.take_append_drop]at this
end
section
variable{P:Program}{K:Nat}{k:List Fr}{F:X->St->Prop}{d:Code}{i:Nat}{l:List Oper}{s:List AV}{h:List Blk}
theorem CQ.ru(G:rA P)(hk:CQ K P k F .normal ⟨(vf P (dS []) l l s h).slots,(vf P (dS []) l l s h).heap⟩)(e:Bh P (dS []) l l s h=true:=by kernel_rfl):CQ K P (.c (.region i l.toArray false)::k) F .normal ⟨s,h⟩:=
 CQ.region G cg ⟨_,A6 e,hk⟩
noncomputable def CV(P:Program)(l:List Oper)(s:List AV)(h:List Blk)(keep:List Nat):Option St:=match iT P (dS []) l l ⟨s,h⟩with|some st=>some ⟨rL keep st.slots 0,st.heap⟩|none=>none
theorem CQ.rn(G:rA P)(keep:List Nat)(m:List AV)(q:List Blk)(hk:CQ K P (.c d::k) F .normal ⟨m,q⟩)(e:CV P l s h keep=some ⟨m,q⟩:=by kernel_rfl):CQ K P (.c (.region i l.toArray false)::.c d::k) F .normal ⟨s,h⟩:=by
 unfold CV at e;split at e
 ·rename_i st j;obtain⟨s1,h1⟩:=st;exact CQ.region G cg ⟨_,j,CQ.wk ((Wk.mask keep).to (Option.some.inj e)) hk⟩
 ·cases e
theorem CQ.g1(G:rA P){f:FuncId}{args:List AV}{r:vP}(c:jh P f args h r)(he:EVO P (dS [{f:=f,args:=args,H:=h,r:=r:CE}]) l l s h (fun j m=>CQ K P k F .normal ⟨j,m⟩)):CQ K P (.c (.region i l.toArray false)::k) F .normal ⟨s,h⟩:=CQ.region G (x6 c) he
theorem CQ.t1(G:rA P){f:FuncId}{args:List AV}{r:vP}(c:jh P f args h r)(he:EVT P (dS [{f:=f,args:=args,H:=h,r:=r:CE}]) l l s h (fun j m es=>wF l es=true/\CQ K P k F .normal ⟨j,m⟩)):CQ K P (.c (.region i l.toArray true)::k) F .normal ⟨s,h⟩:=CQ.fg G (x6 c) he
end
theorem pF{P:Program}{f:FuncId}{args:List AV}{H:List Blk}{r:vP}{L:List CE}(c:jh P f args H r)(cs:iJ P (dS L)):iJ P (dS ({f:=f,args:=args,H:=H,r:=r:CE}::L)):=fun g a H' j e=>by
 simp only[dS]at e;split at e
 ·rename_i hk;cases e;obtain⟨rfl,rfl,rfl⟩:=hk;exact c
 ·exact cs g a H' j e
theorem cj{P:Program}{f:FuncId}{args j:List AV}{H O H1:List Blk}{r:AV}(K m:Nat)(keep:List (Nat×Bool))(I:List Bool)(E:bO K P f j O r H1)
  (hpure:mh H keep) (J:yl I H1) (z:H1.length=K+m) (C:I.length=H1.length)
  (D:rnL keep args=j) (hH:rnH H keep keep=O)
  (T:rr keep=true:=by kernel_rfl) (N:keep.all (fun q=>Nat.blt q.1 H.length)=true:=by kernel_rfl) (U:Nat.ble K keep.length=true:=by kernel_rfl):
  jh P f args H (.loc (rfA (fun k=>(y6 K keep H.length m)[k]?) r) (DF K keep H.length m I H1) (keep.map (·.1)) m):=
 yO K keep I E hpure J z C T N U D hH rfl rfl rfl
theorem pKo{H:List Blk}{b:Nat}{l:List (Nat×Bool)}{α:Type}(c:α->List AV)(hc:∀x,cJ (c x)=[])(e:List α)(rest:mh H l)(hb:H[b]?=some (.own (e.flatMap c)):=by kernel_rfl):mh H ((b,false)::l):=
 ⟨by rw[hb];exact aX hc e,rest⟩
def Ju:Option Blk->List Nat
 |some (.own cs)=>cJ cs
 |some (.fix cs)=>cJ cs
 |some (.map es)=>uE es
 |some (.iter ..)=>[0]
 |some (.rows rs)=>wO rs
 |_=>[]
theorem pKc{H:List Blk}{b:Nat}{l:List (Nat×Bool)}(rest:mh H l)(hb:Ju H[b]?=[]:=by kernel_rfl):mh H ((b,false)::l):=by
 refine⟨?_,rest⟩;generalize H[b]?=o at*;cases o with
 |none=>trivial
 |some x=>cases x<;>first|exact hb|trivial|(simp[Ju]at hb;done)
theorem pKt{H:List Blk}{b:Nat}{l:List (Nat×Bool)}(rest:mh H l):mh H ((b,true)::l):=rest
theorem pK0{H:List Blk}:mh H []:=trivial
def slH(b e:Bool)(j m:Nat)(f:Nat->Nat->AV):Option bU:=bU.ofP (match (match b with|true=>some (j,m)|false=>none),e with|some (l,h),true=>some (f l h)|_,_=>none)
theorem E2{b:Bool}{j m:Nat}{f:Nat->Nat->AV}{v:AV}(h:b=true)(q:f j m=v):slH b true j m f=some (.pure v):=by subst h;subst q;rfl
theorem Wk.cut(b:Nat){K:Nat}{cs:List AV}{s:List AV}{h:List Blk}(m:Nat)(hb:h[b]?=some (.own cs)):Wk K ⟨s,h⟩ ⟨s,h.set b (.own (cs.take m))⟩:=fun out B w π a O=>by
 have C:=O.inv;have I:=aT hb;have g:∀{k:Nat} {x:Blk},(h.set b (.own (cs.take m)))[k]?=some x->(k=b/\x=.own (cs.take m))\/(k≠b/\h[k]?=some x):=by
  intro k x hk;by_cases j:k=b
  ·subst j;rw[List.getElem?_set_self I]at hk;exact .inl ⟨rfl,(Option.some.inj hk).symm⟩
  ·rw[List.getElem?_set_ne (fun e=>j e.symm)]at hk;exact .inr ⟨j,hk⟩
 have old:∀{k:Nat} {x:Blk},(h.set b (.own (cs.take m)))[k]?=some x->∃y,h[k]?=some y/\y.isLive=x.isLive/\y.iA=x.iA/\(∀p b,x.owns p b->y.owns p b):=by
  intro k x hk;rcases g hk with⟨rfl,rfl⟩|⟨_,hk⟩
  ·exact⟨_,hb,rfl,rfl,fun _ _ h=>h⟩
  ·exact⟨x,hk,rfl,rfl,fun _ _ h=>h⟩
 have D:aL out π (h.set b (.own (cs.take m)))=aL out π h:=by
  funext c;apply propext;constructor
  ·rintro(hb|⟨k,x,p,h1,h2,z,E⟩)
   ·exact .inl hb
   ·obtain⟨y,J,_,Y,N⟩:=old h1;exact .inr ⟨k,y,p,J,by rw[Y];exact h2,z,N _ _ E⟩
  ·rintro(T|⟨k,x,p,h1,h2,z,E⟩)
   ·exact .inl T
   ·by_cases j:k=b
    ·subst j;rw[hb]at h1;cases h1;exact .inr ⟨k,.own (cs.take m),p,List.getElem?_set_self I,rfl,z,E⟩
    ·exact .inr ⟨k,x,p,by rw[List.getElem?_set_ne (fun e=>j e.symm)];exact h1,h2,z,E⟩
 refine⟨π,⟨O.defers,?_,?_⟩,fun b hb=>?_,pQ.refl π⟩
 ·simp only[D];exact O.slots
 ·refine⟨by simpa using C.len,C.bound,C.out_lt,?_,?_,?_⟩
  ·intro k x p b h1 h2 z;obtain⟨y,J,_,_,N⟩:=old h1;exact C.baseO k y p b J h2 (N _ _ z)
  ·intro k x p h1 h2;simp only[D];rcases g h1 with⟨rfl,rfl⟩|⟨_,hk⟩
   ·obtain⟨o1,o2⟩:=C.ok k _ p hb h2;exact⟨o1,RvC.take m cs _ _ o2⟩
   ·exact C.ok k x p hk h2
  ·intro k l x y p q b U h1 h2 z E h5 h6 h7;obtain⟨x',x1,_,x3,x4⟩:=old h1;obtain⟨y',J,_,_,N⟩:=old h2;exact C.sepO k l x' y' p q b U x1 J z E (by rw[x3];exact h5) (x4 _ _ h6) (N _ _ h7)
 ·rw[D]at hb;exact hb
theorem Wk.JX(i b:Nat){K:Nat}{α:Type}{c:α->List AV}{es:Nat}(hc:∀x,(c x).length=es)(l:List α)(k:Nat){s:List AV}{h:List Blk}(hk:k<=l.length)(hs:vO s i=.hs b 0 k es)(hb:h[b]?=some (.own (l.flatMap c))):
  Wk K ⟨s,h⟩ ⟨s.set i (.hs b 0 (l.take k).length es),h.set b (.own ((l.take k).flatMap c))⟩:=
 ((Wk.cut b (k*es) hb).to (by rw[tv hc])).trans (Wk.iu i (b:=b) (len:=k) (es:=es) (l.take k).length hs (by rw[List.length_take];omega))
theorem SnC.take{H:List Blk}{ok:Nat->Bool}{A j:List AV}(n:Nat)(h:SnC H ok A j):SnC H ok A (j.take n):=fun w mu mu' π b o m hm q=>RvC.take n _ _ _ (h w mu mu' π b o m hm q)
theorem Sn.hsk{H:List Blk}{ok:Nat->Bool}{b es:Nat}{α:Type}{c:α->List AV}{l:List α}{k:Nat}(hc:∀x,(c x).length=es)(hp:∀x,cJ (c x)=[])(hk:k<=l.length)(j:ok b=true)
  (hb:H[b]?=some (.own (l.flatMap c))\/H[b]?=some (.fix (l.flatMap c))):Sn H ok (.hs b 0 k es) (slT c (l.take k)):=by
 have h:=Sn.hs (len:=k) (es:=es) j hb (SnC.take (k*es) (SnC.pure (aX hp l))) (fun h=>by subst h;simp);unfold slT;rw[<-tv hc,List.length_take,Nat.min_eq_left hk];exact h
attribute [irreducible] vf Bh CV Ed Il
end Go.Eng


set_option linter.unusedVariables false
namespace Go.Eng
open Go Go.RowKit
variable[Dr]
section
variable{P:Program}{call:eN}{ops rest:List Oper}{o:Oper}{s:List AV}{h:List Blk}{K:List AV->List Blk->Prop}{KT:List AV->List Blk->List Ent->Prop}{v:AV}{ws:List (Nat×Blk)}{f:FuncId}{args:List AV}{rd:List Nat}{n:Nat}
theorem EVO.ca(hc:call f args h=some (.loc v ws rd n))(hk:EVO P call ops rest (iM s o.dst v) (aR (h++jz n) ws) K)(hw:dK ops o s=some true:=by kernel_rfl)(he:evalOp P (evA s) h h.length o=some (.call f args):=by kernel_rfl):EVO P call ops (o::rest) s h K:=EVO.cal hw he hc hk
theorem EVT.ca(hc:call f args h=some (.loc v ws rd n))(hk:EVT P call ops rest (iM s o.dst v) (aR (h++jz n) ws) (fun m q es=>KT m q (Gb o h v ws rd n::es)))(hw:dK ops o s=some true:=by kernel_rfl)(he:evalOp P (evA s) h h.length o=some (.call f args):=by kernel_rfl)(j:nX h.length (Gb o h v ws rd n)=true:=by kernel_rfl):EVT P call ops (o::rest) s h KT:=EVT.cal hw he hc j hk
end
def po(P:Program)(h:List Blk)(F:eN):Prop:=iJ P F
section
variable{P:Program}{h H:List Blk}{f:FuncId}{args:List AV}{r:vP}{L:List CE}
theorem ca1(c:jh P f args h r)(cs:po P h (dS L)):po P h (dS ({f:=f,args:=args,H:=h,r:=r:CE}::L)):=pF c cs
theorem ca2(H:List Blk)(c:jh P f args H r)(cs:po P h (dS L)):po P h (dS ({f:=f,args:=args,H:=H,r:=r:CE}::L)):=pF c cs
theorem ca3(c:jh P f args h r):po P h (dS [{f:=f,args:=args,H:=h,r:=r:CE}]):=pF c cg
theorem ca4(H:List Blk)(c:jh P f args H r):po P h (dS [{f:=f,args:=args,H:=H,r:=r:CE}]):=pF c cg
variable{K:Nat}{k:List Fr}{F:X->St->Prop}{i:Nat}{l:List Oper}{s:List AV}
theorem CQ.gn(G:rA P){L:List CE}(c:po P h (dS L))(he:EVO P (dS L) l l s h (fun j m=>CQ K P k F .normal ⟨j,m⟩)):CQ K P (.c (.region i l.toArray false)::k) F .normal ⟨s,h⟩:=CQ.region G c he
theorem CQ.tn(G:rA P){L:List CE}(c:po P h (dS L))(he:EVT P (dS L) l l s h (fun j m es=>wF l es=true/\CQ K P k F .normal ⟨j,m⟩)):CQ K P (.c (.region i l.toArray true)::k) F .normal ⟨s,h⟩:=CQ.fg G c he
theorem ok0{r:AV}(j:aQ P f args r)(hp:cJ args=[]:=by kernel_rfl):jh P f args H (.loc r [] [] 0):=dF (l:=[]) (SnL.pure hp) j
theorem cf0{e:CE}(hH:H=e.H:=by kernel_rfl):dS (e::L) e.f e.args H=some e.r:=Ex hH
theorem cfF{e:CE}(m:dS L f args H=some r)(j:Nat.beq f e.f=false:=by kernel_rfl):dS (e::L) f args H=some r:=xc (fun h _=>absurd h (fun x=>by rw[show Nat.beq f e.f=true from by rw[x];exact Nat.beq_refl _]at j;cases j)) m
theorem cfA{e:CE}(j:args=e.args->r=e.r)(m:dS L f args H=some r):dS (e::L) f args H=some r:=xc (fun _ h=>j h) m
end
theorem sv{α:Type}{p q:Option α}{a b:α}(hp:p=some a)(j:q=some b)(e:p=q):a=b:=Option.some.inj (hp.symm.trans (e.trans j))
section
variable{P:Program}{K:Nat}{k:List Fr}{F:X->St->Prop}{d:Code}{i:Nat}{l:List Oper}{s:List AV}{h:List Blk}
theorem CQ.r2(G:rA P)(m:Nat)(q:List (Nat×AV))(j:List Blk)(hk:CQ K P (.c d::k) F .normal ⟨mkS m 0 q,j⟩)(e:CV P l s h (q.map (·.1))=some ⟨mkS m 0 q,j⟩:=by kernel_rfl):CQ K P (.c (.region i l.toArray false)::.c d::k) F .normal ⟨s,h⟩:=CQ.rn G _ _ _ hk e
theorem CQ.r3(G:rA P)(m:Nat)(q:List (Nat×AV))(hk:CQ K P (.c d::k) F .normal ⟨mkS m 0 q,h⟩)(e:CV P l s h (q.map (·.1))=some ⟨mkS m 0 q,h⟩:=by kernel_rfl):CQ K P (.c (.region i l.toArray false)::.c d::k) F .normal ⟨s,h⟩:=CQ.rn G _ _ _ hk e
end
section
variable{α β:Type}{γ:Type}{δ:Type}
theorem bd2{x:Option α}{y:α->Option β}{f:(a:α)->β->Option γ}{r:γ}(h:bdO x (fun a=>bdO (y a) (f a))=some r):∃a,x=some a/\∃b,y a=some b/\f a b=some r:=by
 obtain⟨a,h1,h⟩:=bd h;obtain⟨b,h2,h⟩:=bd h;exact⟨a,h1,b,h2,h⟩
theorem bd3{x:Option α}{y:α->Option β}{z:α->β->Option γ}{f:(a:α)->(b:β)->γ->Option δ}{r:δ}(h:bdO x (fun a=>bdO (y a) (fun b=>bdO (z a b) (f a b)))=some r):∃a,x=some a/\∃b,y a=some b/\∃c,z a b=some c/\f a b c=some r:=by
 obtain⟨a,h1,b,h2,h⟩:=bd2 h;obtain⟨c,j,h⟩:=bd h;exact⟨a,h1,b,h2,c,j,h⟩
theorem gd2{a b:Bool}{t:Option α}{r:α}(h:gdO a (gdO b t)=some r):a=true/\b=true/\t=some r:=by
 obtain⟨h1,h⟩:=gd h;exact⟨h1,gd h⟩
theorem gd3{a b c:Bool}{t:Option α}{r:α}(h:gdO a (gdO b (gdO c t))=some r):a=true/\b=true/\c=true/\t=some r:=by
 obtain⟨h1,h⟩:=gd h;exact⟨h1,gd2 h⟩
end
theorem aQ.bd{P:Program}(G:rA P){f:FuncId}{fn:Func}(m:P.funcs[f]?=some fn){args:List AV}{r:AV}(rs:List ResultVar)
  (h:CQ 0 P [.c (fn.body.getD .skip)] (aO P rs r) .normal ⟨args++rq (fn.ntmps-args.length),[]⟩) (hb:fn.body.isSome=true:=by kernel_rfl) (j:fn.results.toList=rs:=by kernel_rfl):aQ P f args r:=
 aQ.body G m (c:=fn.body.getD .skip) (by cases h1:fn.body with|none=>rw[h1]at hb;cases hb|some c=>rfl) rfl j h
theorem CQ.cd{P:Program}{K:Nat}{k:List Fr}{F:X->St->Prop}{st:St}{c:Operand}{a b:Code}{α:Type}{t:Bool}{x y:Option α}{r:α}(j:cdO t x y=some r)
  (h1:t=true->x=some r->CQ K P (.c a::k) F .normal st) (h2:t=false->y=some r->CQ K P (.c b::k) F .normal st) (m:evA st.slots c=.at (.bool t):=by kernel_rfl):CQ K P (.c (.cond c a b)::k) F .normal st:=
 CQ.cond m (fun h=>h1 h (dT h j)) (fun h=>h2 h (dU h j))
theorem CQ.app{P:Program}{K:Nat}{q:List Fr}{F Q:X->St->Prop}(ha:∀x st',Q x st'->CQ K P q F x st'):∀(m:List Fr) {x:X} {st:St},CQ K P m Q x st->CQ K P (m++q) F x st
 |[],_,_,h=>ha _ _ h
 |.c d::m,.normal,st,h=>SC.mono (show SC K P st d (CQ K P m Q)from h) fun x st' z=>CQ.app ha m z
 |.c d::m,.exit j,st,h=>CQ.app ha m (x:=.exit j) h
 |.c d::m,.ret,st,h=>CQ.app ha m (x:=.ret) h
 |.b i::m,.normal,st,h=>CQ.app ha m (x:=.normal) h
 |.b i::m,.ret,st,h=>CQ.app ha m (x:=.ret) h
 |.b i::m,.exit j,st,h=>by
  simp only[CQ,List.cons_append]at h ⊢;split at h
  ·exact CQ.app ha m h
  ·exact CQ.app ha m h
theorem CQ.GL{P:Program}{K:Nat}{k:List Fr}{F Q:X->St->Prop}{st:St}{a:Code}(h:CQ K P [.c a] Q .normal st)(ha:∀x st',Q x st'->CQ K P k F x st'):CQ K P (.c a::k) F .normal st:=CQ.app ha [.c a] h
theorem CQ.Ji{P:Program}{K:Nat}{k:List Fr}{F Q:X->St->Prop}{st:St}{a b:Code}(h:CQ K P [.c a,.c b] Q .normal st)(ha:∀x st',Q x st'->CQ K P k F x st'):CQ K P (.c a::.c b::k) F .normal st:=CQ.app ha [.c a,.c b] h
abbrev nS:AV:=.at (.slice none 0 0)
theorem gdn{α:Type}{b:Bool}{t:Option α}{r:α}(h:gdO (!b) t=some r):b=false/\t=some r:=by
 obtain⟨h1,h2⟩:=gd h;exact⟨by simpa using h1,h2⟩
theorem CQ.cN{P:Program}{K:Nat}{k:List Fr}{F:X->St->Prop}{st:St}{c:Operand}{a b:Code}{t:Bool}(h:t=false)(hk:CQ K P (.c b::k) F .normal st)(j:evA st.slots c=.at (.bool t):=by kernel_rfl):CQ K P (.c (.cond c a b)::k) F .normal st:=
 CQ.cond j (fun e=>by rw[h]at e;cases e) (fun _=>hk)
theorem CQ.scope{P:Program}{K:Nat}{k:List Fr}{F:X->St->Prop}{st:St}{c:Code}(h:CQ K P (.c c::k) F .normal st):CQ K P (.c (.scope c)::k) F .normal st:=fun out B w π act R m q=>
 wp_scope_straight (h out B w π act _ m fun x st' a' w' π' z j C=>by cases x<;>exact q _ st' a' w' π' z j C)
def HU{α:Type}(l:List α)(a:Nat)(ys:List α):List α:=(l.take a++ys++l.drop (a+ys.length)).take l.length
@[simp] theorem IX {α:Type} (l:List α) (a:Nat) (ys:List α):(HU l a ys).length=l.length:=by
 unfold HU;simp only[List.length_take,List.length_append,List.length_drop];omega
def jt(s:ByteArray)(i:Int):Int:=match s[i.toNat]? with|some b=>(b.toNat:Int)|none=>0
theorem Hb{P:Program}{α:Type}{f:Program->Sem α}:gl P (program >>= f)=gl P (f P):=rfl
theorem Hg{P:Program}{α β:Type}{a:α}{f:α->Sem β}:gl P (pure a >>= f)=gl P (f a):=rfl
theorem px{P:Program}{ρ:Operand->AV}{H:List Blk}{nid:Nat}{dst:Option Tmp}{ty t:TypeId}{pos:String}{after:Array Edge}{g:Option (Nat×Bool)}{a b:Operand}{k:IntKind}{i:Int}{s:ByteArray}
  (ha:ρ a=.at (.string s)) (hb:ρ b=.at (.int k i)) (j:P.underlying t=some .string) (h:inR i s.size=true):evalOp P ρ H nid ⟨dst,.index t a b,ty,pos,after,g⟩=some (.pure (.at (.int .u8 (jt s i)))):=by
 show bU.ofP (yZ P t (ρ a) (ρ b))=_;rw[ha,hb];have m:0<=i/\i<s.size:=by simpa [inR]using h
 have q:i.toNat<s.size:=by omega
 have e:gl P (Instr.index t (.string s) (.int k i))=some (.int .u8 (jt s i)):=by
  simp[Instr.index,asIntOf,underlying,Hb,Hg,j,jt,m.1,q];rfl
 unfold yZ;rw[j];simp only[A1,toV,e];rfl
def kr(K:Nat)(P:Program)(rs:List ResultVar)(us:List AV)(H1:List Blk):X->St->Prop:=fun x st=>∃T,Wk K st T/\B1 K P rs us H1 x T
theorem kr.ret{K:Nat}{P:Program}{rs:List ResultVar}{us:List AV}{H1:List Blk}{st:St}(vs:List AV)(k:Wk K ⟨vs,st.heap⟩ ⟨us,H1⟩)(h:eZ P st rs=some vs:=by kernel_rfl):kr K P rs us H1 .ret st:=⟨st,Wk.refl st,B1.ret vs k h⟩
theorem kr.normal{K:Nat}{P:Program}{rs:List ResultVar}{us:List AV}{H1:List Blk}{st:St}(vs:List AV)(k:Wk K ⟨vs,st.heap⟩ ⟨us,H1⟩)(h:eZ P st rs=some vs:=by kernel_rfl):kr K P rs us H1 .normal st:=⟨st,Wk.refl st,B1.normal vs k h⟩
theorem kr.wk{K:Nat}{P:Program}{rs:List ResultVar}{us:List AV}{H1:List Blk}{x:X}{st T:St}(hw:Wk K st T)(h:kr K P rs us H1 x T):kr K P rs us H1 x st:=by
 obtain⟨U,h1,h2⟩:=h;exact⟨U,hw.trans h1,h2⟩
theorem SC.IN{K:Nat}{P:Program}{st:St}{c:Code}{Q:X->St->Prop}(h:SC K P st c (fun x st'=>∃T,Wk K st' T/\Q x T)):SC K P st c Q:=fun out B w π a R q z=>h out B w π a R q fun x st' a' w' π' j m C=>by
 obtain⟨T,hw,j⟩:=j;obtain⟨π2,g1,g2,g3⟩:=hw out B w' π' a' m;exact z x T a' w' π2 j g1 (C.trans (EK.less g2 g3))
theorem bO.vE{K:Nat}{P:Program}(G:rA P){f:FuncId}{fn:Func}(q:P.funcs[f]?=some fn){c:Code}(hb:fn.body=some c){args us:List AV}{m H1:List Blk}{s:List AV}{rs:List ResultVar}(hs:args++rq (fn.ntmps-args.length)=s)(j:fn.results.toList=rs)
  (h:CQ K P [.c c] (kr K P rs us H1) .normal ⟨s,m⟩):bO K P f args m (jv us) H1:=bO.body G q hb hs j (SC.IN h)
section
variable{K:Nat}
theorem RvC.Jm{w:World}{mu:Nat->Prop}{π:List (Option PB)}{A m:AV}(q:∀v,Rv w mu π A v->Rv w mu π m v):∀(cs:List AV) (j b o:Nat),cs[j]?=some A->RvC w mu π cs b o->RvC w mu π (cs.set j m) b o
 |[],j,_,_,h,_=>by simp at h
 |c::cs,0,b,o,h,k=>by
  simp at h;subst h;obtain⟨⟨v,h1,h2,z⟩,C⟩:=k;exact⟨⟨v,h1,h2,q _ z⟩,C⟩
 |c::cs,j+1,b,o,h,k=>⟨k.1,RvC.Jm q cs j b (o+1) (by simpa using h) k.2⟩
theorem Wk.Jr(i j:Nat){A D:AV}{cs:List AV}{s:List AV}{h:List Blk}(hA:∀(out B:Nat->Prop) (w:World) (π:List (Option PB)) (v:Value),Inv out B w π h->Rv w (aL out π h) π A v->Rv w (aL out π h) π D v)(hb:h[i]?=some (.own cs))(hc:cs[j]?=some A):Wk K ⟨s,h⟩ ⟨s,h.set i (.own (cs.set j D))⟩:=fun out B w π a T=>by
 have z:=T.inv;have J:=aT hb;have g:∀{k:Nat} {x:Blk},(h.set i (.own (cs.set j D)))[k]?=some x->(k=i/\x=.own (cs.set j D))\/(k≠i/\h[k]?=some x):=by
  intro k x hk;by_cases m:k=i
  ·subst m;rw[List.getElem?_set_self J]at hk;exact .inl ⟨rfl,(Option.some.inj hk).symm⟩
  ·rw[List.getElem?_set_ne (fun e=>m e.symm)]at hk;exact .inr ⟨m,hk⟩
 have old:∀{k:Nat} {x:Blk},(h.set i (.own (cs.set j D)))[k]?=some x->∃y,h[k]?=some y/\y.isLive=x.isLive/\y.iA=x.iA/\(∀p b,x.owns p b->y.owns p b):=by
  intro k x hk;rcases g hk with⟨rfl,rfl⟩|⟨_,hk⟩
  ·exact⟨_,hb,rfl,rfl,fun _ _ h=>h⟩
  ·exact⟨x,hk,rfl,rfl,fun _ _ h=>h⟩
 have E:aL out π (h.set i (.own (cs.set j D)))=aL out π h:=by
  funext b;apply propext;constructor
  ·rintro(hb|⟨k,x,p,h1,h2,C,I⟩)
   ·exact .inl hb
   ·obtain⟨y,N,_,y3,O⟩:=old h1;exact .inr ⟨k,y,p,N,by rw[y3];exact h2,C,O _ _ I⟩
  ·rintro(U|⟨k,x,p,h1,h2,C,I⟩)
   ·exact .inl U
   ·by_cases m:k=i
    ·subst m;rw[hb]at h1;cases h1;exact .inr ⟨k,.own (cs.set j D),p,List.getElem?_set_self J,rfl,C,I⟩
    ·exact .inr ⟨k,x,p,by rw[List.getElem?_set_ne (fun e=>m e.symm)];exact h1,h2,C,I⟩
 refine⟨π,⟨T.defers,?_,?_⟩,fun b hb=>?_,pQ.refl π⟩
 ·simp only[E];exact T.slots
 ·refine⟨by simpa using z.len,z.bound,z.out_lt,?_,?_,?_⟩
  ·intro k x p b h1 h2 C;obtain⟨y,N,_,_,O⟩:=old h1;exact z.baseO k y p b N h2 (O _ _ C)
  ·intro k x p h1 h2;simp only[E];rcases g h1 with⟨rfl,rfl⟩|⟨_,hk⟩
   ·obtain⟨o1,o2⟩:=z.ok k _ p hb h2;exact⟨o1,RvC.Jm (fun v hv=>hA out B w π v z hv) cs j _ _ hc o2⟩
   ·exact z.ok k x p hk h2
  ·intro k l x y p q b Y h1 h2 C I h5 h6 h7;obtain⟨x',x1,_,x3,x4⟩:=old h1;obtain⟨y',N,_,_,O⟩:=old h2;exact z.sepO k l x' y' p q b Y x1 N C I (by rw[x3];exact h5) (x4 _ _ h6) (O _ _ h7)
 ·rw[E]at hb;exact hb
theorem Wk.DC(i j:Nat){b len es:Nat}{cs cs':List AV}{s:List AV}{h:List Blk}(C:h[i]?=some (.own cs'))(hc:cs'[j]?=some (.hs b 0 len es))(hb:h[b]?=some (.fix cs))(hp:cJ cs=[])(z:len=0->cs=[]):Wk K ⟨s,h⟩ ⟨s,h.set i (.own (cs'.set j (.sl true cs len)))⟩:=Wk.Jr i j (fun out B w π v D E=>by
 rcases E with⟨rfl,rfl⟩|⟨p,a,cap,h1,rfl,h2,m,I⟩
 ·exact .inl ⟨rfl,rfl,z rfl,rfl⟩
 ·obtain⟨g1,g2⟩:=Gl D b p cs hb h1;obtain⟨J,N,O⟩:=a;simp only at m;subst m;by_cases q:0<cap
  ·obtain⟨e1,_⟩:=I q;cases e1;exact .inr (.inl ⟨_,_,cap,rfl,h2,fun _=>g2,qe (fun _ h=>h) cs _ _ hp g1⟩)
  ·have:cs=[]:=z (by omega);subst this;exact .inr (.inl ⟨J,N,cap,rfl,h2,fun h=>(h rfl).elim,trivial⟩)) C hc
end
theorem D4{n:Int}{by_ es nid:Nat}{j:List AV}(h1:decide (0<n)=true)(h2:decide (n<=4611686018427387904)=true)(m:decide (n.toNat*by_<=140737488355328)=true):
  na (decide (0<n)&&decide (n<=4611686018427387904)&&decide (n.toNat*by_<=140737488355328)&&true&&true&&true) (some (.eff (.hs nid 0 n.toNat es) [(nid,.own (eY j n.toNat))]))=some (.eff (.hs nid 0 n.toNat es) [(nid,.own (eY j n.toNat))]):=by
 rw[h1,h2,m];rfl
end Go.Eng
namespace Go.L
open Go Go.Eng
variable[Dr]
theorem DA{γ:Type}{i:Int}{l:List γ}{j:Nat}{v:γ}(h:inR i l.length=true):inR i (l.set j v).length=true:=by rw[List.length_set];exact h
theorem Sn.hse{H:List Blk}{ok:Nat->Bool}{b len es:Nat}{cs cs':List AV}{α:Type}{l:List α}(e:l.length=len)(j:ok b=true)(hb:H[b]?=some (.own cs)\/H[b]?=some (.fix cs))(h:SnC H ok cs cs')(m:l.length=0->cs'=[]):Sn H ok (.hs b 0 len es) (.sl true cs' l.length):=by subst e;exact Sn.hs j hb h m
end Go.L


set_option linter.all false
namespace Go.Eng
open Go Go.RowKit
variable[Dr]
theorem Hw{k:IntKind}{xs:List Int}{j:Int}(h:inR j xs.length=true):(xs.flatMap (iC k))[j.toNat]?=some (.at (.int k (gt xs j))):=
 aU (c:=iC k) (es:=1) (i:=j.toNat) (k:=0) (aN k) (aH h) (by omega) (by omega) rfl
theorem vb{k:IntKind}{cs:List AV}{xs:List Int}{j:Int}{o kk:Nat}(h:inR j xs.length=true)(m:o=kk+j.toNat*1)(hx:(cs.drop kk).take xs.length=xs.flatMap (iC k)):cs[o]?=some (.at (.int k (gt xs j))):=by
 have h1:=aH h;have h2:=Hw (k:=k) h;rw[<-hx,List.getElem?_take,if_pos h1,List.getElem?_drop]at h2;rw[m,Nat.mul_one];exact h2
section
variable{α:Type}{c:α->List AV}{es:Nat}{l:List α}
theorem Sn.to{H:List Blk}{ok:Nat->Bool}{A m j:AV}(h:Sn H ok A m)(k:∀(w:World) (mu:Nat->Prop) (π:List (Option PB)) (u:Value),Rv w mu π m u->Rv w mu π j u):Sn H ok A j:=fun w mu mu' π v q hm z=>k _ _ _ _ (h w mu mu' π v q hm z)
end
section
variable{P:Program}{ρ:Operand->AV}{H:List Blk}{nid:Nat}{dst:Option Tmp}{ty t u:TypeId}{pos:String}{after:Array Edge}{g:Option (Nat×Bool)}{a b:Operand}{k k':IntKind}{x y:Int}
end
theorem CQ.nh{K:Nat}{P:Program}{k:List Fr}{F:X->St->Prop}{d:Code}{s:List AV}{h:List Blk}(j:List Nat)(m:List Blk)(hk:CQ K P (.c d::k) F .normal ⟨rL j s 0,m⟩)(e2:h=m:=by kernel_rfl):CQ K P (.c d::k) F .normal ⟨s,h⟩:=CQ.norm j rfl e2 hk
def yh(s:List AV):List (Nat×AV)->List AV
 |[]=>s
 |(i,x)::q=>yh (s.set i x) q
theorem CQ.r4{K:Nat}{P:Program}{k:List Fr}{F:X->St->Prop}{d:Code}{s:List AV}{h:List Blk}{i:Nat}{l:List Oper}(G:rA P)(j:List Nat)(q:List (Nat×AV))(hk:CQ K P (.c d::k) F .normal ⟨yh (rL j s 0) q,h⟩)(e:CV P l s h (j++q.map (·.1))=some ⟨yh (rL j s 0) q,h⟩:=by kernel_rfl):CQ K P (.c (.region i l.toArray false)::.c d::k) F .normal ⟨s,h⟩:=CQ.rn G _ _ _ hk e
theorem CQ.r5{K:Nat}{P:Program}{k:List Fr}{F:X->St->Prop}{d:Code}{s:List AV}{h:List Blk}{i:Nat}{l:List Oper}(G:rA P)(j:List Nat)(q:List (Nat×AV))(m:List Blk)(hk:CQ K P (.c d::k) F .normal ⟨yh (rL j s 0) q,m⟩)(e:CV P l s h (j++q.map (·.1))=some ⟨yh (rL j s 0) q,m⟩:=by kernel_rfl):CQ K P (.c (.region i l.toArray false)::.c d::k) F .normal ⟨s,h⟩:=CQ.rn G _ _ _ hk e
theorem oi{α:Type}{x y:α}(h:some x=some y):x=y:=Option.some.inj h
theorem tr{α:Type}{x y z:α}(h:y=z)(hx:x=y:=by kernel_rfl):x=z:=hx.trans h
theorem eB{x:Option bU}{e b:Bool}(h:e=b)(hx:x=some (.pure (.at (.bool e))):=by kernel_rfl):x=some (.pure (.at (.bool b))):=by rw[hx,h]
section
variable{P:Program}{call:eN}{ops rest:List Oper}{o:Oper}{s:List AV}{h:List Blk}{K:List AV->List Blk->Prop}{KT:List AV->List Blk->List Ent->Prop}
theorem EVO.pk{v:AV}(he:evalOp P (evA s) h h.length o=some (.pure v))(hk:EVO P call ops rest (iM s o.dst v) h K)(hw:dK ops o s=some true:=by kernel_rfl):EVO P call ops (o::rest) s h K:=EVO.pure hw he hk
theorem EVO.ek{v:AV}{ws:List (Nat×Blk)}(he:evalOp P (evA s) h h.length o=some (.eff v ws))(hk:EVO P call ops rest (iM s o.dst v) (aR h ws) K)(hw:dK ops o s=some true:=by kernel_rfl):EVO P call ops (o::rest) s h K:=EVO.eff hw he hk
theorem EVT.pk{v:AV}(he:evalOp P (evA s) h h.length o=some (.pure v))(hk:EVT P call ops rest (iM s o.dst v) h (fun m q es=>KT m q (uP o s h v []::es)))(hw:dK ops o s=some true:=by kernel_rfl)(j:nX h.length (uP o s h v [])=true:=by kernel_rfl):EVT P call ops (o::rest) s h KT:=EVT.pure hw he j hk
theorem EVT.ek{v:AV}{ws:List (Nat×Blk)}(he:evalOp P (evA s) h h.length o=some (.eff v ws))(hk:EVT P call ops rest (iM s o.dst v) (aR h ws) (fun m q es=>KT m q (uP o s h v ws::es)))(hw:dK ops o s=some true:=by kernel_rfl)(j:nX h.length (uP o s h v ws)=true:=by kernel_rfl):EVT P call ops (o::rest) s h KT:=EVT.eff hw he j hk
end
theorem oj{α:Type}{x y:α}(h:some x=some y):y=x:=(Option.some.inj h).symm
theorem gS{α:Type _}{a b:α}:(some a).getD b=a:=rfl
theorem bT(b:Bool):b=true\/b=false:=Bool.eq_false_or_eq_true b
theorem Sp{H:List Blk}{ok:Nat->Bool}{A:AV}{m j:List AV}(k:SnL H ok m j)(h:nI A=[]:=by exact rfl):SnL H ok (A::m) (A::j):=SnL.cons (Sn.pure h) k
abbrev kF3:List (Nat×Bool):=[(0,false),(1,false),(2,false)]
theorem z1:0<1:=by decide
theorem kRf{p:Prop}(h:p:=by kernel_rfl):p:=h
theorem kRa{p q:Prop}(k:q)(h:p:=by kernel_rfl):p/\q:=⟨h,k⟩
theorem CQ.sh{K:Nat}{P:Program}{k:List Fr}{F:X->St->Prop}{x:X}{s:List AV}{h:List Blk}(c:CQ K P k F x ⟨s,h⟩):CQ K P k F x ⟨s,h⟩:=c
end Go.Eng

