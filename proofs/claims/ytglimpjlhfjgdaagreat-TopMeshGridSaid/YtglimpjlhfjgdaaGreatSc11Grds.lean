import Derived.Test.YtglimpjlhfjgdaaGreatSc6Grds
import Derived.KernelRfl
import Derived.Scope
set_option linter.all false
namespace Go.Eng
open Go Go.RowKit
variable[Dr]
variable{K:Nat}{P:Program}
def iw(K:Nat)(P:Program)(f:FuncId)(args:List AV)(j:List Blk)(r:AV)(H1:List Blk):Prop:=
 ∀(out:Nat->Prop) (B:Nat->Prop) (w:World) (π:List (Option PB)) (vs:List Value),Inv out B w π j->RvL w (aJ out π j) π args vs->
  Calls P f vs.toArray w fun e w'=>∃u π',e=.returned u/\EK K B w w' (aJ out π j) (aJ out π' H1) π π'/\Inv out B w' π' H1/\Rv w' (aJ out π' H1) π' r u
theorem Ex{w:World}{mu:Nat->Prop}{π:List (Option PB)}:∀{vs:List AV} {u:Value},Rv w mu π (lj vs) u->∃l:List Value,RvL w mu π vs l/\∀(w':World) (mu':Nat->Prop) (π':List (Option PB)) (us:List AV),RvL w' mu' π' us l->Rv w' mu' π' (lj us) u
 |[],u,h=>by
  obtain⟨a,rfl,h⟩:=h;have p:a.toList=[]:=h;refine⟨[],rfl,fun w' mu' π' us j=>?_⟩;cases us with
  |nil=>exact⟨a,rfl,p⟩
  |cons x us=>obtain⟨v,m,e,_⟩:=j;cases e
 |[v],u,h=>by
  refine⟨[u],⟨u,[],rfl,h,rfl⟩,fun w' mu' π' us j=>?_⟩;cases us with
  |nil=>cases j
  |cons x us=>
   obtain⟨q,m,e,h1,h2⟩:=j;cases e;cases us with
   |nil=>exact h1
   |cons y us=>obtain⟨_,_,e,_⟩:=h2;cases e
 |v1::v2::vs,u,h=>by
  obtain⟨a,rfl,h⟩:=h;refine⟨a.toList,h,fun w' mu' π' us j=>?_⟩;obtain⟨x1,l1,e1,_,x2,l2,e2,_⟩:=h;cases us with
  |nil=>rw[e1]at j;cases j
  |cons C us=>
   cases us with
   |nil=>
    obtain⟨z,D,e,_,h2⟩:=j;rw[e1]at e;cases e;rw[e2]at h2;cases h2
   |cons E us=>exact⟨a,rfl,j⟩
def zz(K:Nat)(P:Program)(rs:List ResultVar)(us:List AV)(H1:List Blk):X->St->Prop
 |.exit _,_=>False
 |_,st=>∃vs,fc P st rs=some vs/\Wk K ⟨vs,st.heap⟩ ⟨us,H1⟩
theorem zz.ret{rs:List ResultVar}{us:List AV}{H1:List Blk}{st:St}(vs:List AV)(k:Wk K ⟨vs,st.heap⟩ ⟨us,H1⟩)(h:fc P st rs=some vs:=by kernel_rfl):zz K P rs us H1 .ret st:=⟨vs,h,k⟩
theorem zz.normal{rs:List ResultVar}{us:List AV}{H1:List Blk}{st:St}(vs:List AV)(k:Wk K ⟨vs,st.heap⟩ ⟨us,H1⟩)(h:fc P st rs=some vs:=by kernel_rfl):zz K P rs us H1 .normal st:=⟨vs,h,k⟩
theorem iw.body(G:qB P){f:FuncId}{fn:Func}(J:P.funcs[f]?=some fn){c:Code}(M:fn.body=some c){args us:List AV}{p H1:List Blk}{s:List AV}{rs:List ResultVar}(hs:args++tI (fn.ntmps-args.length)=s)(q:fn.results.toList=rs)
  (h:CQ K P [.c c] (zz K P rs us H1) .normal ⟨s,p⟩):iw K P f args p (lj us) H1:=by
 intro out B w π vs N D;subst hs;subst q;refine calls_of_wp J M ?_;have hlen:=RvL.length _ _ D;have O:Rep out B w π ⟨args++tI (fn.ntmps-args.length),p⟩ {tmps:=vs.toArray++Array.replicate (fn.ntmps-vs.toArray.size) undef,defers:=[]}:=by
  refine⟨rfl,?_,N⟩;simp only[Array.toList_append,Array.toList_replicate,List.size_toArray,hlen];refine RvL.append _ _ _ _ D ?_;refine RvL.pK _ _ (by simp[tI]) fun i x y h1 h2=>?_
  have:=List.mem_of_getElem? h1;simp[tI]at this;rw[this.2];trivial
 refine h out B w π _ _ O fun x st' a' w' π' z m S=>?_
 have fin:∀j,fc P st' fn.results.toList=some j->Wk K ⟨j,st'.heap⟩ ⟨us,H1⟩->∃u,(results fn a'.tmps).run P w'=.ok u w'/\∃E π2,(Ending.returned u)=.returned E/\EK K B w w' (aJ out π p) (aJ out π2 H1) π π2/\Inv out B w' π2 H1/\Rv w' (aJ out π2 H1) π2 (lj us) E:=by
  intro j T C;obtain⟨u,r1,r2⟩:=oR m T;obtain⟨l,l1,l2⟩:=Ex r2;obtain⟨π2,I,U,Y⟩:=C out B w' π' {tmps:=l.toArray,defers:=[]} ⟨rfl,l1,m.inv⟩;exact⟨u,r1,u,π2,rfl,S.trans (EK.less U Y),I.inv,l2 _ _ _ _ I.slots⟩
 cases x with
 |normal=>obtain⟨j,h1,h2⟩:=z;exact⟨m.defers,fin j h1 h2⟩
 |ret=>obtain⟨j,h1,h2⟩:=z;exact⟨m.defers,fin j h1 h2⟩
 |exit id=>exact z.elim
theorem eP.BP{w:World}{mu:Nat->Prop}{π:List (Option PB)}{p:PB}{x:Blk}(h:x.isLive=false):eP w mu π p x:=by
 cases x with
 |dead=>trivial
 |own cs=>cases h
 |fix cs=>cases h
 |map es=>cases h
 |iter m n seen=>cases h
 |rows rs=>cases h
set_option maxHeartbeats 1000000
theorem wL:∀(ws:List (Nat×Blk)) (H:List Blk),(∀q∈ws,q.1<H.length)->(aN H ws).length=H.length
 |[],H,_=>rfl
 |(j,b)::ws,H,h=>by
  have p:=h (j,b) (by simp);have m:(upd H j b).length=H.length:=by rw[dr (by omega),if_neg (by simp only at p;omega)]
  simp only[aN];rw[wL ws (upd H j b) (fun q z=>by rw[m];exact h q (by simp[z])),m]
theorem sP:∀(ws:List (Nat×Blk)) (H:List Blk) (j:Nat),(∀q∈ws,q.1<H.length)->(∀b,(j,b)∉ws)->(aN H ws)[j]?=H[j]?
 |[],H,_,_,_=>rfl
 |(i,b)::ws,H,j,h,m=>by
  have p:=h (i,b) (by simp);simp only at p;have z:(upd H i b).length=H.length:=by rw[dr (by omega),if_neg (by omega)]
  simp only[aN];rw[sP ws (upd H i b) j (fun q C=>by rw[z];exact h q (by simp[C])) (fun x D=>m x (by simp[D])),gl (by omega),if_neg];rintro rfl;exact m b (by simp)
theorem yr:∀(ws:List (Nat×Blk)) (H:List Blk) (j:Nat) (b:Blk),(∀q∈ws,q.1<H.length)->(ws.map (·.1)).Nodup->(j,b)∈ws->(aN H ws)[j]?=some b
 |[],_,_,_,_,_,h=>by simp at h
 |(i,x)::ws,H,j,b,h,z,hm=>by
  have C:=h (i,x) (by simp);simp only at C;have D:(upd H i x).length=H.length:=by rw[dr (by omega),if_neg (by omega)]
  have p:=List.nodup_cons.1 (by simpa using z:(i::ws.map (·.1)).Nodup);simp only[aN];have m:∀q∈ws,q.1<(upd H i x).length:=fun q E=>by rw[D];exact h q (by simp[E])
  rcases List.mem_cons.1 hm with e|hm
  ·obtain⟨rfl,rfl⟩:=Prod.mk.inj e;rw[sP ws _ j m (fun y I=>p.1 (List.mem_map.2 ⟨(j,y),I,rfl⟩)),gl (by omega),if_pos rfl]
  ·exact yr ws _ j b m p.2 hm
theorem wz:∀(l:List (Nat×Bool)),ri l=true->(l.map (·.1)).Nodup
 |[],_=>List.nodup_nil
 |(b,t)::l,h=>by
  simp only[ri,Bool.and_eq_true]at h;obtain⟨h1,h2⟩:=h;have m:posOf l b 0=none:=by
   cases p:posOf l b 0 with
   |none=>rfl
   |some c=>rw[p]at h1;cases h1
  refine List.nodup_cons.2 ⟨fun hm=>?_,wz l h2⟩;obtain⟨q,z,he⟩:=List.mem_map.1 hm;obtain⟨j,C⟩:=List.getElem?_of_mem z;exact qx l b 0 m j q.2 (by rw[C];exact congrArg some (Prod.ext he rfl))
def yE(K:Nat)(keep:List (Nat×Bool))(n m:Nat):List Nat:=(keep.take K).map (·.1)++List.range' n m
def xe(ρ:Nat->Option Nat):List Nat->List Bool->List Blk->List (Nat×Blk)
 |j::m,t::p,x::xs=>(j,rfB ρ t x)::xe ρ m p xs
 |_,_,_=>[]
def vK:List (Nat×Bool)->List (Nat×Blk)
 |[]=>[]
 |(b,_)::l=>(b,.dead)::vK l
def DP(K:Nat)(keep:List (Nat×Bool))(n m:Nat)(j:List Bool)(H1:List Blk):List (Nat×Blk):=
 xe (fun k=>(yE K keep n m)[k]?) (yE K keep n m) j H1++vK (keep.drop K)
def Aa:List Bool->List Blk->Prop
 |false::j,x::xs=>xq (some x)/\Aa j xs
 |true::j,_::xs=>Aa j xs
 |_,_=>True
theorem zF(ρ:Nat->Option Nat):∀(m:List Nat) (p:List Bool) (xs:List Blk),m.length=xs.length->p.length=xs.length->(xe ρ m p xs).map (·.1)=m
 |[],[],[],_,_=>rfl
 |j::m,t::p,x::xs,h1,h2=>by simp only[xe,List.map_cons];rw[zF ρ m p xs (by simpa using h1) (by simpa using h2)]
 |[],_::_,_,h1,h2=>by cases (List.eq_nil_of_length_eq_zero (by simpa using h1.symm));simp at h2
 |_::_,[],_,h1,h2=>by cases (List.eq_nil_of_length_eq_zero (by simpa using h2.symm));simp at h1
 |[],[],_::_,h1,_=>by simp at h1
 |_::_,_::_,[],h1,_=>by simp at h1
theorem Ac(ρ:Nat->Option Nat):∀(m:List Nat) (p:List Bool) (xs:List Blk) (j:Nat) (b:Blk),(j,b)∈xe ρ m p xs->∃(k:Nat) (t:Bool) (x:Blk),m[k]?=some j/\p[k]?=some t/\xs[k]?=some x/\b=rfB ρ t x
 |[],_,_,_,_,h=>by simp[xe]at h
 |_::_,[],_,_,_,h=>by simp[xe]at h
 |_::_,_::_,[],_,_,h=>by simp[xe]at h
 |E::m,t::p,x::xs,j,b,h=>by
  simp only[xe,List.mem_cons,Prod.mk.injEq]at h;rcases h with⟨rfl,rfl⟩|h
  ·exact⟨0,t,x,rfl,rfl,rfl,rfl⟩
  ·obtain⟨k,q,z,h1,h2,C,D⟩:=Ac ρ m p xs j b h;exact⟨k+1,q,z,by simpa using h1,by simpa using h2,by simpa using C,D⟩
theorem yo:∀l:List (Nat×Bool),(vK l).map (·.1)=l.map (·.1)
 |[]=>rfl
 |(b,t)::l=>by simp only[vK,List.map_cons,yo l]
theorem xZ:∀(l:List (Nat×Bool)) (j:Nat) (b:Blk),(j,b)∈vK l->b=.dead
 |[],_,_,h=>by simp[vK]at h
 |(i,t)::l,j,b,h=>by
  simp only[vK,List.mem_cons,Prod.mk.injEq]at h;rcases h with⟨_,rfl⟩|h
  ·rfl
  ·exact xZ l j b h
theorem uS:∀(j:List Bool) (xs:List Blk) (k:Nat) (x:Blk),Aa j xs->j[k]?=some false->xs[k]?=some x->xq (some x)
 |[],_,k,x,_,h,_=>by simp at h
 |_::_,[],k,x,_,_,h=>by simp at h
 |false::j,y::xs,0,x,hp,_,h=>by simp at h;subst h;exact hp.1
 |false::j,y::xs,k+1,x,hp,h1,h2=>uS j xs k x hp.2 (by simpa using h1) (by simpa using h2)
 |true::j,y::xs,0,x,hp,h,_=>by simp at h
 |true::j,y::xs,k+1,x,hp,h1,h2=>uS j xs k x hp (by simpa using h1) (by simpa using h2)
theorem yk{H H':List Blk}{keep:List (Nat×Bool)}:∀(l:List (Nat×Bool)),(∀q∈l,H'[q.1]?=H[q.1]?)->rnH H' keep l=rnH H keep l
 |[],_=>rfl
 |(b,t)::l,h=>by
  simp only[rnH];rw[h (b,t) (by simp),yk l fun q j=>h q (by simp[j])]
theorem rv{H H':List Blk}:∀(l:List (Nat×Bool)),(∀q∈l,H'[q.1]?=H[q.1]?)->kf H l->kf H' l
 |[],_,_=>trivial
 |(b,false)::l,h,hp=>⟨by rw[h (b,false) (by simp)];exact hp.1,rv l (fun q j=>h q (by simp[j])) hp.2⟩
 |(b,true)::l,h,hp=>rv l (fun q j=>h q (by simp[j])) hp
theorem AS{f:FuncId}{args a8:List AV}{H H0 H1:List Blk}{r v:AV}{ws:List (Nat×Blk)}{m:Nat}{rd:List Nat}(K:Nat)(keep:List (Nat×Bool))(ts:List Bool)(c7:iw K P f a8 H0 r H1)
  (h9:kf H keep) (l4:Aa ts H1) (j0:H1.length=K+m) (j1:ts.length=H1.length)
  (hn:ri keep=true:=by kernel_rfl) (j2:keep.all (fun q=>Nat.blt q.1 H.length)=true:=by kernel_rfl) (hK:Nat.ble K keep.length=true:=by kernel_rfl)
  (j3:rnL keep args=a8:=by kernel_rfl) (hH:rnH H keep keep=H0:=by kernel_rfl)
  (hv:rfA (fun k=>(yE K keep H.length m)[k]?) r=v:=by kernel_rfl) (l5:DP K keep H.length m ts H1=ws:=by kernel_rfl) (l6:keep.map (·.1)=rd:=by kernel_rfl):kU P f args H (.loc v ws rd m):=by
 intro H' hlen l7 out B w π vs M hπ ha;subst l6 hH j3;have hK:K<=keep.length:=lbT hK;have O:∀q∈keep,q.1<H.length:=fun q J=>by have:=List.all_eq_true.1 j2 q J;simpa [Nat.blt_eq]using this
 have c8:∀q∈keep,H'[q.1]?=H[q.1]?:=fun q J=>l7 q.1 (List.mem_map.2 ⟨q,J,rfl⟩) (O q J)
 rw[<-yk keep c8]at c7;have b7:=rv keep c8 h9;have c9:=wz keep hn;have hl:=M.len;obtain⟨π0,hπ0⟩:∃π0:List (Option PB),π0=keep.map fun q=>(π[q.1]?).getD none:=⟨_,rfl⟩
 have hπm:∀b c p,posOf keep b 0=some c->π[b]?=some (some p)->π0[c]?=some (some p):=by
  intro b c p h1 h2;obtain⟨j,t,rfl,D⟩:=ve keep b 0 c h1;rw[hπ0,List.getElem?_map,Nat.zero_add,D];simp[h2]
 have back:∀{j:Nat} {x:Blk} {p:PB},(rnH H' keep keep)[j]?=some x->x.isLive=true->π0[j]?=some (some p)->∃b t y,keep[j]?=some (b,t)/\H'[b]?=some y/\rfB (fun b=>posOf keep b 0) t y=x/\π[b]?=some (some p):=by
  intro j x p h1 h2 D;obtain⟨b,t,y,g1,g2,g3⟩:=yJ keep j x h1 h2;refine⟨b,t,y,g1,g2,g3,?_⟩;rw[hπ0,List.getElem?_map,g1]at D;simp only[Option.map_some,Option.some.injEq]at D;cases C:π[b]? with
  |none=>rw[C]at D;cases D
  |some q=>rw[C]at D;simp only[Option.getD_some]at D;rw[D]
 have b1:∀{j b:Nat} {t:Bool},keep[j]?=some (b,t)->b∈keep.map (·.1):=fun h=>List.mem_map.2 ⟨_,List.mem_of_getElem? h,rfl⟩
 obtain⟨S,I⟩:∃o:Nat->Prop,o=fun b=>out b\/∃(i:Nat) (x:Blk) (p:PB),H'[i]?=some x/\x.gI=true/\i∉keep.map (·.1)/\π[i]?=some (some p)/\x.owns p b:=⟨_,rfl⟩
 obtain⟨Q0,b2⟩:∃Q:Nat->Prop,Q=fun b=>b<w.heap.size/\¬∃(k:Nat) (x:Blk) (p:PB),(rnH H' keep keep)[k]?=some x/\x.isLive=true/\π0[k]?=some (some p)/\x.owns p b:=⟨_,rfl⟩
 have b8:∀b,aJ S π0 (rnH H' keep keep) b->aJ out π H' b:=by
  rintro b (ho|⟨j,x,p,e1,e2,T,e4⟩)
  ·rw[I]at ho;rcases ho with ho|⟨i,x,p,g1,g2,_,g3,g4⟩
   ·exact .inl ho
   ·exact .inr ⟨i,x,p,g1,g2,g3,g4⟩
  ·obtain⟨b',t,y,g1,g2,g3,g4⟩:=back e1 (Blk.ct e2) T;exact .inr ⟨b',y,p,g2,pX (by rw[g3];exact e2),g4,fL (by rw[g3];exact e4)⟩
 have j4:∀b,B b->Q0 b:=by
  intro b C;rw[b2];refine⟨M.bound b C,?_⟩;rintro⟨k,x,p,e1,e2,T,e4⟩;obtain⟨b',t,y,g1,g2,g3,g4⟩:=back e1 e2 T;exact(M.baseO b' y p b g2 g4 (fL (by rw[g3];exact e4))).1 C
 have j8:Inv S Q0 w π0 (rnH H' keep keep):=by
  refine⟨by rw[hπ0,List.length_map];exact(sT keep).symm,fun b C=>by rw[b2]at C;exact C.1,?_,?_,?_,?_⟩
  ·intro b C;rw[I]at C;rcases C with C|⟨i,x,p,g1,g2,g3,g4,g5⟩
   ·exact j4 b (M.out_lt b C)
   ·rw[b2];refine⟨(M.baseO i x p b g1 g4 g5).2,?_⟩;rintro⟨k,y,q,e1,e2,T,e4⟩;obtain⟨b',t,z,k1,k2,k3,k4⟩:=back e1 e2 T;refine M.sepO i b' x z p q b ?_ g1 k2 g4 k4 g2 g5 (fL (by rw[k3];exact e4));rintro rfl;exact g3 (b1 k1)
  ·intro j x p b0 e1 e2 T;refine⟨fun J=>?_,?_⟩
   ·rw[b2]at J;exact J.2 ⟨j,x,p,e1,Blk.dL T,e2,T⟩
   ·obtain⟨b,t,y,g1,g2,g3,g4⟩:=back e1 (Blk.dL T) e2;exact(M.baseO b y p b0 g2 g4 (fL (by rw[g3];exact T))).2
  ·intro j x p e1 e2;cases hx:x.isLive with
   |false=>exact eP.BP hx
   |true=>
    obtain⟨b,t,y,g1,g2,g3,g4⟩:=back e1 hx e2;have l8:=M.ok b y p g2 g4;subst g3;exact AK b8 hπm (fun ht=>by subst ht;have:=rW keep b7 j b g1;rw[g2]at this;exact this) l8
  ·intro i j x y p q b0 b9 e1 e2 T e4 e5 e6 e7;obtain⟨b,t,z,g1,g2,g3,g4⟩:=back e1 (Blk.ct e5) T;obtain⟨b',t',z',k1,k2,k3,k4⟩:=back e2 (Blk.dL e7) e4;refine M.sepO b b' z z' p q b0 ?_ g2 k2 g4 k4 (pX (by rw[g3];exact e5)) (fL (by rw[g3];exact e6)) (fL (by rw[k3];exact e7));rintro rfl;exact b9 (rV keep hn i j b t t' g1 k1)
 refine(c7 S Q0 w π0 vs j8 (tv b8 hπm args _ ha)).mono ?_;rintro e w' ⟨u,π1,rfl,hE,N,hr⟩;obtain⟨E,a1⟩:∃E,E=yE K keep H.length m:=⟨_,rfl⟩;have l9:E.length=K+m:=by rw[a1];simp only[yE,List.length_append,List.length_map,List.length_take,List.length_range'];omega
 have c0:∀k,k<K->∃t,keep[k]?=some (E[k]?.getD 0,t)/\E[k]?=some (E[k]?.getD 0):=by
  intro k hk;have c3:k<keep.length:=by omega
  refine⟨keep[k].2,?_⟩;have:E[k]?=some keep[k].1:=by
   rw[a1,yE,List.getElem?_append_left (by simp;omega),List.getElem?_map,List.getElem?_take,if_pos hk,geT c3];rfl
  rw[this];simp[geT c3]
 have j5:∀k,K<=k->k<K+m->E[k]?=some (H.length+(k-K)):=by
  intro k h1 h2;rw[a1,yE,List.getElem?_append_right (by simp;omega)];have:(List.map (fun x:Nat×Bool=>x.1) (List.take K keep)).length=K:=by simp;omega
  rw[this,List.getElem?_range' (by omega)];simp
 have e8:E.Nodup:=by
  rw[a1,yE,List.nodup_append];refine⟨?_,List.nodup_range',?_⟩
  ·rw[List.map_take];exact List.Sublist.nodup (List.take_sublist _ _) c9
  ·rintro a j6 b C rfl;obtain⟨q,J,rfl⟩:=List.mem_map.1 j6;have h1:=O q (List.mem_of_mem_take J);have:=(List.mem_range'_1.1 C).1;omega
 have j7:∀{i j c:Nat},E[i]?=some c->E[j]?=some c->i=j:=by
  intro i j c h1 h2;have hi:=aH h1;have U:=aH h2;rw[geT hi]at h1;rw[geT U]at h2;exact(List.getElem_inj e8).1 (by rw[Option.some.inj h1,Option.some.inj h2])
 have c4:(xe (fun k=>E[k]?) E ts H1).map (·.1)=E:=zF _ _ _ _ (by rw[l9,j0]) j1;rw[<-a1]at hv;have e9:ws=xe (fun k=>E[k]?) E ts H1++vK (keep.drop K):=by rw[<-l5,DP,<-a1]
 have b3:ws.map (·.1)=E++(keep.drop K).map (·.1):=by rw[e9,List.map_append,c4,yo]
 have j9:(ws.map (·.1)).Nodup:=by
  rw[b3,List.nodup_append];refine⟨e8,?_,?_⟩
  ·rw[List.map_drop];exact List.Sublist.nodup (List.drop_sublist _ _) c9
  ·rintro a j6 b C rfl;obtain⟨k,hk⟩:=List.getElem?_of_mem j6;obtain⟨q,J,rfl⟩:=List.mem_map.1 C;obtain⟨i,hi⟩:=List.getElem?_of_mem J;rw[List.getElem?_drop]at hi;by_cases a6:k<K
   ·obtain⟨t,g1,g2⟩:=c0 k a6;rw[hk]at g1;have:=rV keep hn k (K+i) _ t q.2 g1 (by rw[hi];rfl);omega
   ·have k0:=aH hk;rw[j5 k (by omega) (by omega)]at hk;have:=O q (List.mem_of_getElem? hi);have:=Option.some.inj hk;omega
 have Z:∀q∈ws,q.1<H'.length:=by
  intro q J;have:q.1∈ws.map (·.1):=List.mem_map.2 ⟨q,J,rfl⟩;rw[b3]at this;rcases List.mem_append.1 this with h|h
  ·obtain⟨k,hk⟩:=List.getElem?_of_mem h;by_cases a6:k<K
   ·obtain⟨t,g1,g2⟩:=c0 k a6;rw[hk]at g1;have:=O _ (List.mem_of_getElem? g1);simp only[Option.getD_some]at this;omega
   ·have k0:=aH hk;rw[j5 k (by omega) (by omega)]at hk;have:=Option.some.inj hk;omega
  ·obtain⟨x,hx,e⟩:=List.mem_map.1 h;have:=O x (List.mem_of_mem_drop hx);omega
 obtain⟨H2,a7⟩:∃H2,H2=aN H' ws:=⟨_,rfl⟩;have k6:H2.length=H'.length:=by rw[a7];exact wL ws H' Z
 have k7:∀{k j:Nat},E[k]?=some j->j<π.length:=by
  intro k j hk;have:j∈ws.map (·.1):=by rw[b3];exact List.mem_append.2 (.inl (List.mem_of_getElem? hk))
  obtain⟨q,J,rfl⟩:=List.mem_map.1 this;have:=Z q J;omega
 have hex:∀j:Nat,∃o:Option PB,(∀k:Nat,E[k]?=some j->o=(π1[k]?).getD none)/\(j∉E->o=(π[j]?).getD none):=by
  intro j;by_cases U:j∈E
  ·obtain⟨k,hk⟩:=List.getElem?_of_mem U;exact⟨(π1[k]?).getD none,fun k' c3=>by rw[j7 hk c3],fun h=>(h U).elim⟩
  ·exact⟨(π[j]?).getD none,fun k hk=>(U (List.mem_of_getElem? hk)).elim,fun _=>rfl⟩
 obtain⟨g,hg⟩:=Classical.axiomOfChoice hex;obtain⟨π2,hπ2⟩:∃π2:List (Option PB),π2=(List.range π.length).map g:=⟨_,rfl⟩;have ol:π2.length=π.length:=by rw[hπ2];simp
 have oi:∀{k j:Nat},E[k]?=some j->π2[j]?=some ((π1[k]?).getD none):=by
  intro k j hk;rw[hπ2,List.getElem?_map,List.getElem?_range (k7 hk),Option.map_some,(hg j).1 k hk]
 have oo:∀{j:Nat},j∉E->π2[j]?=π[j]?:=by
  intro j U;by_cases hl:j<π.length
  ·rw[hπ2,List.getElem?_map,List.getElem?_range hl,Option.map_some,(hg j).2 U,geT hl,Option.getD_some]
  ·rw[List.getElem?_eq_none (by omega),List.getElem?_eq_none (by omega)]
 have Y:∀(b c:Nat) (q:PB),E[b]?=some c->π1[b]?=some (some q)->π2[c]?=some (some q):=by
  intro b c q C J;rw[oi C,J];rfl
 have k8:∀(i:Nat) (p:PB),π[i]?=some (some p)->π2[i]?=some (some p):=by
  intro i p h;by_cases hi:i∈E
  ·obtain⟨k,hk⟩:=List.getElem?_of_mem hi;by_cases a6:k<K
   ·obtain⟨t,g1,g2⟩:=c0 k a6;rw[hk]at g1;simp only[Option.getD_some]at g1;have:π0[k]?=some (some p):=by rw[hπ0,List.getElem?_map,g1];simp[h]
    exact Y k i p hk (hE.pin k a6 p this)
   ·have k0:=aH hk;rw[j5 k (by omega) (by omega)]at hk;obtain rfl:=Option.some.inj hk;exact(hπ _ (by omega) (by omega) p h).elim
  ·rw[oo hi];exact h
 have key:∀(j:Nat) (x:Blk) (p:PB),H2[j]?=some x->x.isLive=true->π2[j]?=some (some p)->
   (j∉keep.map (·.1)/\H'[j]?=some x/\π[j]?=some (some p))\/∃(k:Nat) (t:Bool) (y:Blk),E[k]?=some j/\ts[k]?=some t/\H1[k]?=some y/\x=rfB (fun k=>E[k]?) t y/\π1[k]?=some (some p):=by
  intro j x p h1 h2 D;by_cases U:∃b,(j,b)∈ws
  ·obtain⟨b,C⟩:=U;have e:=yr ws H' j b Z j9 C;rw[<-a7,h1]at e;cases e;rw[e9]at C;rcases List.mem_append.1 C with C|C
   ·obtain⟨k,t,y,g1,g2,g3,g4⟩:=Ac _ _ _ _ _ _ C;refine .inr ⟨k,t,y,g1,g2,g3,g4,?_⟩;rw[oi g1]at D;cases hk:π1[k]? with
    |none=>rw[hk]at D;cases D
    |some q=>rw[hk]at D;simpa using D
   ·have:=xZ _ _ _ C;subst this;cases h2
  ·have U:∀b,(j,b)∉ws:=fun b C=>U ⟨b,C⟩
   rw[a7,sP ws H' j Z U]at h1;have b4:j∉ws.map (·.1):=fun hm=>by
    obtain⟨q,J,rfl⟩:=List.mem_map.1 hm;exact U q.2 J
   rw[b3]at b4;have k9:j∉E:=fun h=>b4 (List.mem_append.2 (.inl h))
   have n0:j∉(keep.drop K).map (·.1):=fun h=>b4 (List.mem_append.2 (.inr h))
   refine .inl ⟨fun hm=>?_,h1,?_⟩
   ·obtain⟨q,J,rfl⟩:=List.mem_map.1 hm;obtain⟨i,hi⟩:=List.getElem?_of_mem J;by_cases n1:i<K
    ·obtain⟨t,g1,g2⟩:=c0 i n1;rw[hi]at g1;have e:q.1=E[i]?.getD 0:=by rw[Option.some.inj g1]
     rw[<-e]at g2;exact k9 (List.mem_of_getElem? g2)
    ·refine n0 (List.mem_map.2 ⟨q,?_,rfl⟩);refine List.mem_of_getElem? (i:=i-K) ?_;rw[List.getElem?_drop,show K+(i-K)=i by omega];exact hi
   ·rw[oo k9]at D;exact D
 have b5:∀b,aJ out π2 H2 b->aJ S π1 H1 b:=by
  rintro b (h|⟨i,x,p,h1,h2,D,h4⟩)
  ·exact .inl (by rw[I];exact .inl h)
  ·rcases key i x p h1 (Blk.ct h2) D with⟨g1,g2,g3⟩|⟨k,t,y,g1,g2,g3,g4,g5⟩
   ·exact .inl (by rw[I];exact .inr ⟨i,x,p,g2,h2,g1,g3,h4⟩)
   ·exact .inr ⟨k,y,p,g3,pX (by rw[<-g4];exact h2),g5,fL (by rw[<-g4];exact h4)⟩
 have h8:Ext B w w' (aJ out π H') (aJ out π2 H2) π π2:=by
  refine⟨fun b C=>hE.low b (j4 b C),hE.size,fun b C n3=>?_,k8,hE.os,hE.tape,hE.output,hE.drawn⟩;obtain⟨k1,k2⟩:=hE.keep b C (fun h=>n3 (b8 b h));exact⟨k1,fun h=>k2 (b5 b h)⟩
 have b6:∀{k:Nat} {y:Blk} {p:PB} {c:Nat},H1[k]?=some y->π1[k]?=some (some p)->y.owns p c->w.heap.size<=c\/∃(b:Nat) (z:Blk) (q:PB),b∈keep.map (·.1)/\H'[b]?=some z/\π[b]?=some (some q)/\z.owns q c:=by
  intro k y p c h1 h2 D;have c5:=(N.baseO k y p c h1 h2 D).1;rw[b2]at c5;by_cases j2:c<w.heap.size
  ·right;have c5:∃(k:Nat) (x:Blk) (q:PB),(rnH H' keep keep)[k]?=some x/\x.isLive=true/\π0[k]?=some (some q)/\x.owns q c:=Classical.byContradiction fun hc=>c5 ⟨j2,hc⟩
   obtain⟨k',x,q,e1,e2,T,e4⟩:=c5;obtain⟨b,t,z,g1,g2,g3,g4⟩:=back e1 e2 T;exact⟨b,z,q,b1 g1,g2,g4,fL (by rw[g3];exact e4)⟩
  ·exact .inl (by omega)
 have same:∀{i:Nat} {x:Blk} {p:PB} {c:Nat},i∉keep.map (·.1)->H'[i]?=some x->π[i]?=some (some p)->x.owns p c->w'.heap[c]?=w.heap[c]?:=by
  intro i x p c h0 h1 h2 D;by_cases hm:x.gI=true
  ·exact hE.low _ (j8.out_lt _ (by rw[I];exact .inr ⟨i,x,p,h1,hm,h0,h2,D⟩))
  ·refine(hE.keep c (M.baseO i x p c h1 h2 D).2 (fun h=>?_)).1;rcases b8 _ h with ho|⟨j,y,q,g1,g2,g3,g4⟩
   ·exact(M.baseO i x p c h1 h2 D).1 (M.out_lt _ ho)
   ·by_cases l0:j=i
    ·subst l0;rw[h1]at g1;cases g1;exact hm g2
    ·exact M.sepO j i y x q p c l0 g1 h1 g3 h2 g2 g4 D
 refine⟨u,π2,rfl,?_,?_,?_,?_⟩
 ·rw[<-a7];exact h8
 ·rw[<-a7];refine⟨by rw[ol,k6,hl],fun b C=>Nat.lt_of_lt_of_le (M.bound b C) hE.size,M.out_lt,?_,?_,?_⟩
  ·intro i x p c h1 h2 D;rcases key i x p h1 (Blk.dL D) h2 with⟨g1,g2,g3⟩|⟨k,t,y,g1,g2,g3,g4,g5⟩
   ·have:=M.baseO i x p c g2 g3 D;exact⟨this.1,Nat.lt_of_lt_of_le this.2 hE.size⟩
   ·have l1:y.owns p c:=fL (by rw[<-g4];exact D);exact⟨fun C=>(N.baseO k y p c g3 g5 l1).1 (j4 _ C),(N.baseO k y p c g3 g5 l1).2⟩
  ·intro i x p h1 h2;cases hx:x.isLive with
   |false=>exact eP.BP hx
   |true=>
    rcases key i x p h1 hx h2 with⟨g1,g2,g3⟩|⟨k,t,y,g1,g2,g3,g4,g5⟩
    ·exact eP.ext h8 (fun c hc=>same g1 g2 g3 hc) (M.ok i x p g2 g3)
    ·subst g4;exact AK b5 Y (fun ht=>by subst ht;exact uS ts H1 k y l4 g2 g3) (N.ok k y p g3 g5)
  ·intro i j x y p q c b9 h1 h2 D h4 h5 h6 h7;rcases key i x p h1 (Blk.ct h5) D with⟨g1,g2,g3⟩|⟨k,t,z,g1,g2,g3,g4,g5⟩
   ·rcases key j y q h2 (Blk.dL h7) h4 with⟨k1,k2,k3⟩|⟨k',t',z',k1,k2,k3,k4,k5⟩
    ·exact M.sepO i j x y p q c b9 g2 k2 g3 k3 h5 h6 h7
    ·have n4:z'.owns q c:=fL (by rw[<-k4];exact h7);refine(N.baseO k' z' q c k3 k5 n4).1 (N.out_lt _ ?_);rw[I];exact .inr ⟨i,x,p,g2,h5,g1,g3,h6⟩
   ·have c4:z.gI=true:=pX (by rw[<-g4];exact h5);have c6:z.owns p c:=fL (by rw[<-g4];exact h6);rcases key j y q h2 (Blk.dL h7) h4 with⟨k1,k2,k3⟩|⟨k',t',z',k1,k2,k3,k4,k5⟩
    ·have n9:=(M.baseO j y q c k2 k3 h7).2;rcases b6 g3 g5 c6 with o0|⟨b,z2,q2,f1,f2,f3,f4⟩
     ·omega
     ·have o1:b≠j:=fun e=>k1 (e▸f1)
      by_cases l2:aJ S π0 (rnH H' keep keep) c
      ·rcases l2 with ho|⟨o2,x2,p2,e1,e2,T,e4⟩
       ·exact(N.baseO k z p c g3 g5 c6).1 (N.out_lt _ ho)
       ·obtain⟨b',t2,y2,m1,m2,m3,m4⟩:=back e1 (Blk.ct e2) T;have l3:b'≠j:=fun e=>k1 (e▸b1 m1)
        exact M.sepO b' j y2 y p2 q c l3 m2 k2 m4 k3 (pX (by rw[m3];exact e2)) (fL (by rw[m3];exact e4)) h7
      ·exact(hE.keep c (by omega) l2).2 (.inr ⟨k,z,p,g3,c4,g5,c6⟩)
    ·have n5:k≠k':=by
      rintro rfl;rw[g1]at k1;exact b9 (Option.some.inj k1)
     exact N.sepO k k' z z' p q c n5 g3 k3 g5 k5 c4 c6 (fL (by rw[<-k4];exact h7))
 ·rw[<-a7,<-hv];exact wu b5 Y r u hr
 ·intro j U;have b4:j∉E:=fun hm=>by
   have:j∈ws.map (·.1):=by rw[b3];exact List.mem_append.2 (.inl hm)
   obtain⟨q,J,rfl⟩:=List.mem_map.1 this;exact U q.2 J
  exact oo b4
end Go.Eng


set_option linter.unusedVariables false
namespace Go.Eng
open Go Go.RowKit
variable[Dr]
noncomputable def uA(P:Program)(call:fG)(ops l:List Oper)(s:List AV)(h:List Blk):St:=match ij P call ops l ⟨s,h⟩with|some st=>st|none=>⟨s,h⟩
noncomputable def zO(P:Program)(call:fG)(ops l:List Oper)(s:List AV)(h:List Blk):Bool:=match ij P call ops l ⟨s,h⟩with|some _=>true|none=>false
theorem zA{P:Program}{call:fG}{ops l:List Oper}{s:List AV}{h:List Blk}(e:zO P call ops l s h=true):ij P call ops l ⟨s,h⟩=some (uA P call ops l s h):=by
 unfold zO at e;unfold uA;split at e
 ·rename_i st j;rw[j]
 ·cases e
section
variable{P:Program}{call:fG}{ops l:List Oper}{s:List AV}{h:List Blk}{K:List AV->List Blk->Prop}{KT:List AV->List Blk->List Ent->Prop}
theorem EVO.mu(n:Nat)(hk:EVO P call ops (l.drop n) (uA P call ops (l.take n) s h).slots (uA P call ops (l.take n) s h).heap K)(e:zO P call ops (l.take n) s h=true:=by kernel_rfl):EVO P call ops l s h K:=by
 have:=EVO.many (l1:=l.take n) (l2:=l.drop n) (s1:=(uA P call ops (l.take n) s h).slots) (h1:=(uA P call ops (l.take n) s h).heap) (by rw[zA e]) hk;rwa[List.take_append_drop]at this
noncomputable def Cn(P:Program)(call:fG)(ops l:List Oper)(s:List AV)(h:List Blk):St:=match gk P call ops l ⟨s,h⟩with|some (st,_)=>st|none=>⟨s,h⟩
noncomputable def Gm(P:Program)(call:fG)(ops l:List Oper)(s:List AV)(h:List Blk):Bool:=match gk P call ops l ⟨s,h⟩with|some _=>true|none=>false
theorem EVT.mu(n:Nat)(hk:EVT P call ops (l.drop n) (Cn P call ops (l.take n) s h).slots (Cn P call ops (l.take n) s h).heap (fun m p es=>KT m p (Eu P call ops (l.take n) s h++es)))(e:Gm P call ops (l.take n) s h=true:=by kernel_rfl):EVT P call ops l s h KT:=by
 have:=EVT.many (l1:=l.take n) (l2:=l.drop n) (s1:=(Cn P call ops (l.take n) s h).slots) (h1:=(Cn P call ops (l.take n) s h).heap) (by
  unfold Gm at e;unfold Cn;split at e
  ·rename_i st j;rw[j]
  ·cases e) hk
 rwa[List.take_append_drop]at this
end
section
variable{P:Program}{K:Nat}{k:List Fr}{F:X->St->Prop}{d:Code}{i:Nat}{l:List Oper}{s:List AV}{h:List Blk}
theorem CQ.ru(G:qB P)(hk:CQ K P k F .normal ⟨(uA P (dz []) l l s h).slots,(uA P (dz []) l l s h).heap⟩)(e:zO P (dz []) l l s h=true:=by kernel_rfl):CQ K P (.c (.region i l.toArray false)::k) F .normal ⟨s,h⟩:=
 CQ.region G bn ⟨_,zA e,hk⟩
noncomputable def Bb(P:Program)(l:List Oper)(s:List AV)(h:List Blk)(keep:List Nat):Option St:=match ij P (dz []) l l ⟨s,h⟩with|some st=>some ⟨pF keep st.slots 0,st.heap⟩|none=>none
theorem CQ.rn(G:qB P)(keep:List Nat)(m:List AV)(p:List Blk)(hk:CQ K P (.c d::k) F .normal ⟨m,p⟩)(e:Bb P l s h keep=some ⟨m,p⟩:=by kernel_rfl):CQ K P (.c (.region i l.toArray false)::.c d::k) F .normal ⟨s,h⟩:=by
 unfold Bb at e;split at e
 ·rename_i st j;obtain⟨s1,h1⟩:=st;exact CQ.region G bn ⟨_,j,CQ.wk ((Wk.mask keep).to (Option.some.inj e)) hk⟩
 ·cases e
theorem CQ.g1(G:qB P){f:FuncId}{args:List AV}{r:wJ}(c:kU P f args h r)(he:EVO P (dz [{f:=f,args:=args,H:=h,r:=r:CE}]) l l s h (fun j m=>CQ K P k F .normal ⟨j,m⟩)):CQ K P (.c (.region i l.toArray false)::k) F .normal ⟨s,h⟩:=CQ.region G (wR c) he
theorem CQ.t1(G:qB P){f:FuncId}{args:List AV}{r:wJ}(c:kU P f args h r)(he:EVT P (dz [{f:=f,args:=args,H:=h,r:=r:CE}]) l l s h (fun j m es=>u7 l es=true/\CQ K P k F .normal ⟨j,m⟩)):CQ K P (.c (.region i l.toArray true)::k) F .normal ⟨s,h⟩:=CQ.de G (wR c) he
end
theorem oH{P:Program}{f:FuncId}{args:List AV}{H:List Blk}{r:wJ}{L:List CE}(c:kU P f args H r)(cs:ko P (dz L)):ko P (dz ({f:=f,args:=args,H:=H,r:=r:CE}::L)):=fun g a H' j e=>by
 simp only[dz]at e;split at e
 ·rename_i hk;cases e;obtain⟨rfl,rfl,rfl⟩:=hk;exact c
 ·exact cs g a H' j e
theorem br{P:Program}{f:FuncId}{args j:List AV}{H N H1:List Blk}{r:AV}(K m:Nat)(keep:List (Nat×Bool))(I:List Bool)(E:iw K P f j N r H1)
  (p:kf H keep) (J:Aa I H1) (z:H1.length=K+m) (C:I.length=H1.length)
  (D:rnL keep args=j) (hH:rnH H keep keep=N)
  (O:ri keep=true:=by kernel_rfl) (M:keep.all (fun q=>Nat.blt q.1 H.length)=true:=by kernel_rfl) (S:Nat.ble K keep.length=true:=by kernel_rfl):
  kU P f args H (.loc (rfA (fun k=>(yE K keep H.length m)[k]?) r) (DP K keep H.length m I H1) (keep.map (·.1)) m):=
 AS K keep I E p J z C O M S D hH rfl rfl rfl
theorem pKo{H:List Blk}{b:Nat}{l:List (Nat×Bool)}{α:Type}(c:α->List AV)(hc:∀x,dB (c x)=[])(e:List α)(rest:kf H l)(j:H[b]?=some (.own (e.flatMap c)):=by kernel_rfl):kf H ((b,false)::l):=
 ⟨by rw[j];exact aW hc e,rest⟩
theorem pKf{H:List Blk}{b:Nat}{l:List (Nat×Bool)}{α:Type}(c:α->List AV)(hc:∀x,dB (c x)=[])(e:List α)(rest:kf H l)(j:H[b]?=some (.fix (e.flatMap c)):=by kernel_rfl):kf H ((b,false)::l):=
 ⟨by rw[j];exact aW hc e,rest⟩
def Hi:Option Blk->List Nat
 |some (.own cs)=>dB cs
 |some (.fix cs)=>dB cs
 |some (.map es)=>rh es
 |some (.iter ..)=>[0]
 |some (.rows rs)=>tj rs
 |_=>[]
theorem pKc{H:List Blk}{b:Nat}{l:List (Nat×Bool)}(rest:kf H l)(j:Hi H[b]?=[]:=by kernel_rfl):kf H ((b,false)::l):=by
 refine⟨?_,rest⟩;generalize H[b]?=o at*;cases o with
 |none=>trivial
 |some x=>cases x<;>first|exact j|trivial|(simp[Hi]at j;done)
theorem pKt{H:List Blk}{b:Nat}{l:List (Nat×Bool)}(rest:kf H l):kf H ((b,true)::l):=rest
theorem pK0{H:List Blk}:kf H []:=trivial
def slH(b e:Bool)(j m:Nat)(f:Nat->Nat->AV):Option bk:=bk.ofP (match (match b with|true=>some (j,m)|false=>none),e with|some (l,h),true=>some (f l h)|_,_=>none)
theorem Fg{b:Bool}{j m:Nat}{f:Nat->Nat->AV}{v:AV}(h:b=true)(p:f j m=v):slH b true j m f=some (.pure v):=by subst h;subst p;rfl
theorem Wk.cut(b:Nat){K:Nat}{cs:List AV}{s:List AV}{h:List Blk}(m:Nat)(z:h[b]?=some (.own cs)):Wk K ⟨s,h⟩ ⟨s,h.set b (.own (cs.take m))⟩:=fun out B w π a O=>by
 have D:=O.inv;have J:=aH z;have g:∀{k:Nat} {x:Blk},(h.set b (.own (cs.take m)))[k]?=some x->(k=b/\x=.own (cs.take m))\/(k≠b/\h[k]?=some x):=by
  intro k x hk;by_cases j:k=b
  ·subst j;rw[List.getElem?_set_self J]at hk;exact .inl ⟨rfl,(Option.some.inj hk).symm⟩
  ·rw[List.getElem?_set_ne (fun e=>j e.symm)]at hk;exact .inr ⟨j,hk⟩
 have old:∀{k:Nat} {x:Blk},(h.set b (.own (cs.take m)))[k]?=some x->∃y,h[k]?=some y/\y.isLive=x.isLive/\y.gI=x.gI/\(∀p b,x.owns p b->y.owns p b):=by
  intro k x hk;rcases g hk with⟨rfl,rfl⟩|⟨_,hk⟩
  ·exact⟨_,z,rfl,rfl,fun _ _ h=>h⟩
  ·exact⟨x,hk,rfl,rfl,fun _ _ h=>h⟩
 have E:aJ out π (h.set b (.own (cs.take m)))=aJ out π h:=by
  funext c;apply propext;constructor
  ·rintro(z|⟨k,x,p,h1,h2,C,I⟩)
   ·exact .inl z
   ·obtain⟨y,M,_,U,N⟩:=old h1;exact .inr ⟨k,y,p,M,by rw[U];exact h2,C,N _ _ I⟩
  ·rintro(S|⟨k,x,p,h1,h2,C,I⟩)
   ·exact .inl S
   ·by_cases j:k=b
    ·subst j;rw[z]at h1;cases h1;exact .inr ⟨k,.own (cs.take m),p,List.getElem?_set_self J,rfl,C,I⟩
    ·exact .inr ⟨k,x,p,by rw[List.getElem?_set_ne (fun e=>j e.symm)];exact h1,h2,C,I⟩
 refine⟨π,⟨O.defers,?_,?_⟩,fun b z=>?_,pV.refl π⟩
 ·simp only[E];exact O.slots
 ·refine⟨by simpa using D.len,D.bound,D.out_lt,?_,?_,?_⟩
  ·intro k x p b h1 h2 C;obtain⟨y,M,_,_,N⟩:=old h1;exact D.baseO k y p b M h2 (N _ _ C)
  ·intro k x p h1 h2;simp only[E];rcases g h1 with⟨rfl,rfl⟩|⟨_,hk⟩
   ·obtain⟨Y,Z⟩:=D.ok k _ p z h2;exact⟨Y,RvC.take m cs _ _ Z⟩
   ·exact D.ok k x p hk h2
  ·intro k l x y p q b T h1 h2 C I h5 h6 h7;obtain⟨x',x1,_,x3,x4⟩:=old h1;obtain⟨y',M,_,_,N⟩:=old h2;exact D.sepO k l x' y' p q b T x1 M C I (by rw[x3];exact h5) (x4 _ _ h6) (N _ _ h7)
 ·rw[E]at z;exact z
theorem Wk.Jb(i b:Nat){K:Nat}{α:Type}{c:α->List AV}{es:Nat}(hc:∀x,(c x).length=es)(l:List α)(k:Nat){s:List AV}{h:List Blk}(hk:k<=l.length)(hs:tQ s i=.hs b 0 k es)(j:h[b]?=some (.own (l.flatMap c))):
  Wk K ⟨s,h⟩ ⟨s.set i (.hs b 0 (l.take k).length es),h.set b (.own ((l.take k).flatMap c))⟩:=
 ((Wk.cut b (k*es) j).to (by rw[su hc])).trans (Wk.jo i (b:=b) (len:=k) (es:=es) (l.take k).length hs (by rw[List.length_take];omega))
theorem SnC.take{H:List Blk}{ok:Nat->Bool}{A j:List AV}(n:Nat)(h:SnC H ok A j):SnC H ok A (j.take n):=fun w mu mu' π b o m hm p=>RvC.take n _ _ _ (h w mu mu' π b o m hm p)
theorem Sn.hsk{H:List Blk}{ok:Nat->Bool}{b es:Nat}{α:Type}{c:α->List AV}{l:List α}{k:Nat}(hc:∀x,(c x).length=es)(hp:∀x,dB (c x)=[])(hk:k<=l.length)(j:ok b=true)
  (m:H[b]?=some (.own (l.flatMap c))\/H[b]?=some (.fix (l.flatMap c))):Sn H ok (.hs b 0 k es) (slT c (l.take k)):=by
 have h:=Sn.hs (len:=k) (es:=es) j m (SnC.take (k*es) (SnC.pure (aW hp l))) (fun h=>by subst h;simp);unfold slT;rw[<-su hc,List.length_take,Nat.min_eq_left hk];exact h
attribute [irreducible] uA zO Bb Cn Gm
end Go.Eng


set_option linter.unusedVariables false
namespace Go.Eng
open Go Go.RowKit
variable[Dr]
section
variable{P:Program}{call:fG}{ops rest:List Oper}{o:Oper}{s:List AV}{h:List Blk}{K:List AV->List Blk->Prop}{KT:List AV->List Blk->List Ent->Prop}{v:AV}{ws:List (Nat×Blk)}{f:FuncId}{args:List AV}{rd:List Nat}{n:Nat}
theorem EVO.ca(hc:call f args h=some (.loc v ws rd n))(hk:EVO P call ops rest (gX s o.dst v) (aN (h++iT n) ws) K)(hw:dk ops o s=some true:=by kernel_rfl)(he:evalOp P (evA s) h h.length o=some (.call f args):=by kernel_rfl):EVO P call ops (o::rest) s h K:=EVO.cal hw he hc hk
theorem EVT.ca(hc:call f args h=some (.loc v ws rd n))(hk:EVT P call ops rest (gX s o.dst v) (aN (h++iT n) ws) (fun m p es=>KT m p (DW o h v ws rd n::es)))(hw:dk ops o s=some true:=by kernel_rfl)(he:evalOp P (evA s) h h.length o=some (.call f args):=by kernel_rfl)(j:nq h.length (DW o h v ws rd n)=true:=by kernel_rfl):EVT P call ops (o::rest) s h KT:=EVT.cal hw he hc j hk
end
def oC(P:Program)(h:List Blk)(F:fG):Prop:=ko P F
section
variable{P:Program}{h H:List Blk}{f:FuncId}{args:List AV}{r:wJ}{L:List CE}
theorem ca1(c:kU P f args h r)(cs:oC P h (dz L)):oC P h (dz ({f:=f,args:=args,H:=h,r:=r:CE}::L)):=oH c cs
theorem ca2(H:List Blk)(c:kU P f args H r)(cs:oC P h (dz L)):oC P h (dz ({f:=f,args:=args,H:=H,r:=r:CE}::L)):=oH c cs
theorem ca3(c:kU P f args h r):oC P h (dz [{f:=f,args:=args,H:=h,r:=r:CE}]):=oH c bn
theorem ca4(H:List Blk)(c:kU P f args H r):oC P h (dz [{f:=f,args:=args,H:=H,r:=r:CE}]):=oH c bn
variable{K:Nat}{k:List Fr}{F:X->St->Prop}{i:Nat}{l:List Oper}{s:List AV}
theorem CQ.gn(G:qB P){L:List CE}(c:oC P h (dz L))(he:EVO P (dz L) l l s h (fun j m=>CQ K P k F .normal ⟨j,m⟩)):CQ K P (.c (.region i l.toArray false)::k) F .normal ⟨s,h⟩:=CQ.region G c he
theorem CQ.tn(G:qB P){L:List CE}(c:oC P h (dz L))(he:EVT P (dz L) l l s h (fun j m es=>u7 l es=true/\CQ K P k F .normal ⟨j,m⟩)):CQ K P (.c (.region i l.toArray true)::k) F .normal ⟨s,h⟩:=CQ.de G c he
theorem ok0{r:AV}(j:aI P f args r)(hp:dB args=[]:=by kernel_rfl):kU P f args H (.loc r [] [] 0):=cV (l:=[]) (SnL.pure hp) j
theorem cf0{e:CE}(hH:H=e.H:=by kernel_rfl):dz (e::L) e.f e.args H=some e.r:=Cy hH
theorem cfF{e:CE}(m:dz L f args H=some r)(j:Nat.beq f e.f=false:=by kernel_rfl):dz (e::L) f args H=some r:=vA (fun h _=>absurd h (fun x=>by rw[show Nat.beq f e.f=true from by rw[x];exact Nat.beq_refl _]at j;cases j)) m
theorem cfA{e:CE}(j:args=e.args->r=e.r)(m:dz L f args H=some r):dz (e::L) f args H=some r:=vA (fun _ h=>j h) m
end
theorem sv{α:Type}{p q:Option α}{a b:α}(hp:p=some a)(j:q=some b)(e:p=q):a=b:=Option.some.inj (hp.symm.trans (e.trans j))
section
variable{P:Program}{K:Nat}{k:List Fr}{F:X->St->Prop}{d:Code}{i:Nat}{l:List Oper}{s:List AV}{h:List Blk}
theorem CQ.n2(m:Nat)(q:List (Nat×AV))(j:List Blk)(hk:CQ K P (.c d::k) F .normal ⟨mkS m 0 q,j⟩)(e:pF (q.map (·.1)) s 0=mkS m 0 q:=by kernel_rfl)(e2:h=j:=by kernel_rfl):CQ K P (.c d::k) F .normal ⟨s,h⟩:=CQ.norm _ e e2 hk
theorem CQ.r2(G:qB P)(m:Nat)(q:List (Nat×AV))(j:List Blk)(hk:CQ K P (.c d::k) F .normal ⟨mkS m 0 q,j⟩)(e:Bb P l s h (q.map (·.1))=some ⟨mkS m 0 q,j⟩:=by kernel_rfl):CQ K P (.c (.region i l.toArray false)::.c d::k) F .normal ⟨s,h⟩:=CQ.rn G _ _ _ hk e
theorem CQ.r3(G:qB P)(m:Nat)(q:List (Nat×AV))(hk:CQ K P (.c d::k) F .normal ⟨mkS m 0 q,h⟩)(e:Bb P l s h (q.map (·.1))=some ⟨mkS m 0 q,h⟩:=by kernel_rfl):CQ K P (.c (.region i l.toArray false)::.c d::k) F .normal ⟨s,h⟩:=CQ.rn G _ _ _ hk e
end
section
variable{α β:Type}{γ:Type}{δ:Type}
theorem bd2{x:Option α}{y:α->Option β}{f:(a:α)->β->Option γ}{r:γ}(h:bdO x (fun a=>bdO (y a) (f a))=some r):∃a,x=some a/\∃b,y a=some b/\f a b=some r:=by
 obtain⟨a,h1,h⟩:=bd h;obtain⟨b,h2,h⟩:=bd h;exact⟨a,h1,b,h2,h⟩
theorem bd3{x:Option α}{y:α->Option β}{z:α->β->Option γ}{f:(a:α)->(b:β)->γ->Option δ}{r:δ}(h:bdO x (fun a=>bdO (y a) (fun b=>bdO (z a b) (f a b)))=some r):∃a,x=some a/\∃b,y a=some b/\∃c,z a b=some c/\f a b c=some r:=by
 obtain⟨a,h1,b,h2,h⟩:=bd2 h;obtain⟨c,j,h⟩:=bd h;exact⟨a,h1,b,h2,c,j,h⟩
theorem gd2{a b:Bool}{t:Option α}{r:α}(h:gdO a (gdO b t)=some r):a=true/\b=true/\t=some r:=by
 obtain⟨h1,h⟩:=gd h;exact⟨h1,gd h⟩
theorem gd3{a b c:Bool}{t:Option α}{r:α}(h:gdO a (gdO b (gdO c t))=some r):a=true/\b=true/\c=true/\t=some r:=by
 obtain⟨h1,h⟩:=gd h;exact⟨h1,gd2 h⟩
end
theorem aI.bd{P:Program}(G:qB P){f:FuncId}{fn:Func}(p:P.funcs[f]?=some fn){args:List AV}{r:AV}(rs:List ResultVar)
  (h:CQ 0 P [.c (fn.body.getD .skip)] (aG P rs r) .normal ⟨args++tI (fn.ntmps-args.length),[]⟩) (m:fn.body.isSome=true:=by kernel_rfl) (j:fn.results.toList=rs:=by kernel_rfl):aI P f args r:=
 aI.body G p (c:=fn.body.getD .skip) (by cases h1:fn.body with|none=>rw[h1]at m;cases m|some c=>rfl) rfl j h
theorem CQ.cd{P:Program}{K:Nat}{k:List Fr}{F:X->St->Prop}{st:St}{c:Operand}{a b:Code}{α:Type}{t:Bool}{x y:Option α}{r:α}(j:cdO t x y=some r)
  (h1:t=true->x=some r->CQ K P (.c a::k) F .normal st) (h2:t=false->y=some r->CQ K P (.c b::k) F .normal st) (m:evA st.slots c=.at (.bool t):=by kernel_rfl):CQ K P (.c (.cond c a b)::k) F .normal st:=
 CQ.cond m (fun h=>h1 h (eO h j)) (fun h=>h2 h (eM h j))
theorem CQ.app{P:Program}{K:Nat}{q:List Fr}{F Q:X->St->Prop}(p:∀x st',Q x st'->CQ K P q F x st'):∀(m:List Fr) {x:X} {st:St},CQ K P m Q x st->CQ K P (m++q) F x st
 |[],_,_,h=>p _ _ h
 |.c d::m,.normal,st,h=>SC.mono (show SC K P st d (CQ K P m Q)from h) fun x st' z=>CQ.app p m z
 |.c d::m,.exit j,st,h=>CQ.app p m (x:=.exit j) h
 |.c d::m,.ret,st,h=>CQ.app p m (x:=.ret) h
 |.b i::m,.normal,st,h=>CQ.app p m (x:=.normal) h
 |.b i::m,.ret,st,h=>CQ.app p m (x:=.ret) h
 |.b i::m,.exit j,st,h=>by
  simp only[CQ,List.cons_append]at h ⊢;split at h
  ·exact CQ.app p m h
  ·exact CQ.app p m h
theorem CQ.E3{P:Program}{K:Nat}{k:List Fr}{F Q:X->St->Prop}{st:St}{a:Code}(h:CQ K P [.c a] Q .normal st)(j:∀x st',Q x st'->CQ K P k F x st'):CQ K P (.c a::k) F .normal st:=CQ.app j [.c a] h
theorem CQ.IF{P:Program}{K:Nat}{k:List Fr}{F Q:X->St->Prop}{st:St}{a b:Code}(h:CQ K P [.c a,.c b] Q .normal st)(j:∀x st',Q x st'->CQ K P k F x st'):CQ K P (.c a::.c b::k) F .normal st:=CQ.app j [.c a,.c b] h
abbrev nS:AV:=.at (.slice none 0 0)
theorem gdn{α:Type}{b:Bool}{t:Option α}{r:α}(h:gdO (!b) t=some r):b=false/\t=some r:=by
 obtain⟨h1,h2⟩:=gd h;exact⟨by simpa using h1,h2⟩
theorem CQ.cN{P:Program}{K:Nat}{k:List Fr}{F:X->St->Prop}{st:St}{c:Operand}{a b:Code}{t:Bool}(h:t=false)(hk:CQ K P (.c b::k) F .normal st)(j:evA st.slots c=.at (.bool t):=by kernel_rfl):CQ K P (.c (.cond c a b)::k) F .normal st:=
 CQ.cond j (fun e=>by rw[h]at e;cases e) (fun _=>hk)
theorem CQ.cY{P:Program}{K:Nat}{k:List Fr}{F:X->St->Prop}{st:St}{c:Operand}{a b:Code}{t:Bool}(h:t=true)(hk:CQ K P (.c a::k) F .normal st)(j:evA st.slots c=.at (.bool t):=by kernel_rfl):CQ K P (.c (.cond c a b)::k) F .normal st:=
 CQ.cond j (fun _=>hk) (fun e=>by rw[h]at e;cases e)
theorem CQ.scope{P:Program}{K:Nat}{k:List Fr}{F:X->St->Prop}{st:St}{c:Code}(h:CQ K P (.c c::k) F .normal st):CQ K P (.c (.scope c)::k) F .normal st:=fun out B w π act R m p=>
 wp_scope_straight (h out B w π act _ m fun x st' a' w' π' q j z=>by cases x<;>exact p _ st' a' w' π' q j z)
def Ft{α:Type}(l:List α)(a:Nat)(ys:List α):List α:=(l.take a++ys++l.drop (a+ys.length)).take l.length
@[simp] theorem GB {α:Type} (l:List α) (a:Nat) (ys:List α):(Ft l a ys).length=l.length:=by
 unfold Ft;simp only[List.length_take,List.length_append,List.length_drop];omega
def iW(s:ByteArray)(i:Int):Int:=match s[i.toNat]? with|some b=>(b.toNat:Int)|none=>0
theorem E0{P:Program}{α:Type}{f:Program->Sem α}:fJ P (program >>= f)=fJ P (f P):=rfl
theorem EX{P:Program}{α β:Type}{a:α}{f:α->Sem β}:fJ P (pure a >>= f)=fJ P (f a):=rfl
theorem oL{P:Program}{ρ:Operand->AV}{H:List Blk}{nid:Nat}{dst:Option Tmp}{ty t:TypeId}{pos:String}{after:Array Edge}{g:Option (Nat×Bool)}{a b:Operand}{k:IntKind}{i:Int}{s:ByteArray}
  (m:ρ a=.at (.string s)) (p:ρ b=.at (.int k i)) (j:P.underlying t=some .string) (h:inR i s.size=true):evalOp P ρ H nid ⟨dst,.index t a b,ty,pos,after,g⟩=some (.pure (.at (.int .u8 (iW s i)))):=by
 show bk.ofP (xx P t (ρ a) (ρ b))=_;rw[m,p];have q:0<=i/\i<s.size:=by simpa [inR]using h
 have z:i.toNat<s.size:=by omega
 have e:fJ P (Instr.index t (.string s) (.int k i))=some (.int .u8 (iW s i)):=by
  simp[Instr.index,asIntOf,underlying,E0,EX,j,iW,q.1,z];rfl
 unfold xx;rw[j];simp only[zE,toV,e];rfl
def iK(K:Nat)(P:Program)(rs:List ResultVar)(us:List AV)(H1:List Blk):X->St->Prop:=fun x st=>∃T,Wk K st T/\zz K P rs us H1 x T
theorem iK.ret{K:Nat}{P:Program}{rs:List ResultVar}{us:List AV}{H1:List Blk}{st:St}(vs:List AV)(k:Wk K ⟨vs,st.heap⟩ ⟨us,H1⟩)(h:fc P st rs=some vs:=by kernel_rfl):iK K P rs us H1 .ret st:=⟨st,Wk.refl st,zz.ret vs k h⟩
theorem iK.normal{K:Nat}{P:Program}{rs:List ResultVar}{us:List AV}{H1:List Blk}{st:St}(vs:List AV)(k:Wk K ⟨vs,st.heap⟩ ⟨us,H1⟩)(h:fc P st rs=some vs:=by kernel_rfl):iK K P rs us H1 .normal st:=⟨st,Wk.refl st,zz.normal vs k h⟩
theorem iK.wk{K:Nat}{P:Program}{rs:List ResultVar}{us:List AV}{H1:List Blk}{x:X}{st T:St}(hw:Wk K st T)(h:iK K P rs us H1 x T):iK K P rs us H1 x st:=by
 obtain⟨U,h1,h2⟩:=h;exact⟨U,hw.trans h1,h2⟩
theorem SC.FL{K:Nat}{P:Program}{st:St}{c:Code}{Q:X->St->Prop}(h:SC K P st c (fun x st'=>∃T,Wk K st' T/\Q x T)):SC K P st c Q:=fun out B w π a R p q=>h out B w π a R p fun x st' a' w' π' j m z=>by
 obtain⟨T,hw,j⟩:=j;obtain⟨π2,g1,g2,g3⟩:=hw out B w' π' a' m;exact q x T a' w' π2 j g1 (z.trans (EK.less g2 g3))
theorem iw.rk{K:Nat}{P:Program}(G:qB P){f:FuncId}{fn:Func}(p:P.funcs[f]?=some fn){c:Code}(q:fn.body=some c){args us:List AV}{m H1:List Blk}{s:List AV}{rs:List ResultVar}(hs:args++tI (fn.ntmps-args.length)=s)(j:fn.results.toList=rs)
  (h:CQ K P [.c c] (iK K P rs us H1) .normal ⟨s,m⟩):iw K P f args m (lj us) H1:=iw.body G p q hs j (SC.FL h)
section
variable{K:Nat}
end
end Go.Eng
namespace Go.L
open Go Go.Eng
variable[Dr]
theorem oK{γ:Type}{i:Int}{l:List γ}{j:Nat}{v:γ}(h:inR i l.length=true):inR i (l.set j v).length=true:=by rw[List.length_set];exact h
theorem qw{i:Int}{m k:Nat}(e:decide (m=k)=true)(h:inR i k=true):inR i m=true:=by rw[dcT e];exact h
theorem Sn.hse{H:List Blk}{ok:Nat->Bool}{b len es:Nat}{cs j:List AV}{α:Type}{l:List α}(e:l.length=len)(m:ok b=true)(p:H[b]?=some (.own cs)\/H[b]?=some (.fix cs))(h:SnC H ok cs j)(q:l.length=0->j=[]):Sn H ok (.hs b 0 len es) (.sl true j l.length):=by subst e;exact Sn.hs m p h q
end Go.L


set_option linter.all false
namespace Go.Eng
open Go Go.RowKit
variable[Dr]
section
variable{α:Type}{c:α->List AV}{es:Nat}{l:List α}
theorem Sn.to{H:List Blk}{ok:Nat->Bool}{A m j:AV}(h:Sn H ok A m)(k:∀(w:World) (mu:Nat->Prop) (π:List (Option PB)) (u:Value),Rv w mu π m u->Rv w mu π j u):Sn H ok A j:=fun w mu mu' π v p hm q=>k _ _ _ _ (h w mu mu' π v p hm q)
end
section
variable{P:Program}{ρ:Operand->AV}{H:List Blk}{nid:Nat}{dst:Option Tmp}{ty t u:TypeId}{pos:String}{after:Array Edge}{g:Option (Nat×Bool)}{a b:Operand}{k k':IntKind}{x y:Int}
end
theorem CQ.nh{K:Nat}{P:Program}{k:List Fr}{F:X->St->Prop}{d:Code}{s:List AV}{h:List Blk}(j:List Nat)(m:List Blk)(hk:CQ K P (.c d::k) F .normal ⟨pF j s 0,m⟩)(e2:h=m:=by kernel_rfl):CQ K P (.c d::k) F .normal ⟨s,h⟩:=CQ.norm j rfl e2 hk
def wU(s:List AV):List (Nat×AV)->List AV
 |[]=>s
 |(i,x)::q=>wU (s.set i x) q
theorem CQ.r4{K:Nat}{P:Program}{k:List Fr}{F:X->St->Prop}{d:Code}{s:List AV}{h:List Blk}{i:Nat}{l:List Oper}(G:qB P)(j:List Nat)(q:List (Nat×AV))(hk:CQ K P (.c d::k) F .normal ⟨wU (pF j s 0) q,h⟩)(e:Bb P l s h (j++q.map (·.1))=some ⟨wU (pF j s 0) q,h⟩:=by kernel_rfl):CQ K P (.c (.region i l.toArray false)::.c d::k) F .normal ⟨s,h⟩:=CQ.rn G _ _ _ hk e
theorem CQ.r5{K:Nat}{P:Program}{k:List Fr}{F:X->St->Prop}{d:Code}{s:List AV}{h:List Blk}{i:Nat}{l:List Oper}(G:qB P)(j:List Nat)(q:List (Nat×AV))(m:List Blk)(hk:CQ K P (.c d::k) F .normal ⟨wU (pF j s 0) q,m⟩)(e:Bb P l s h (j++q.map (·.1))=some ⟨wU (pF j s 0) q,m⟩:=by kernel_rfl):CQ K P (.c (.region i l.toArray false)::.c d::k) F .normal ⟨s,h⟩:=CQ.rn G _ _ _ hk e
theorem oi{α:Type}{x y:α}(h:some x=some y):x=y:=Option.some.inj h
theorem tr{α:Type}{x y z:α}(h:y=z)(j:x=y:=by kernel_rfl):x=z:=j.trans h
theorem eB{x:Option bk}{e b:Bool}(h:e=b)(j:x=some (.pure (.at (.bool e))):=by kernel_rfl):x=some (.pure (.at (.bool b))):=by rw[j,h]
section
variable{P:Program}{call:fG}{ops rest:List Oper}{o:Oper}{s:List AV}{h:List Blk}{K:List AV->List Blk->Prop}{KT:List AV->List Blk->List Ent->Prop}
theorem EVO.pk{v:AV}(he:evalOp P (evA s) h h.length o=some (.pure v))(hk:EVO P call ops rest (gX s o.dst v) h K)(hw:dk ops o s=some true:=by kernel_rfl):EVO P call ops (o::rest) s h K:=EVO.pure hw he hk
theorem EVO.ek{v:AV}{ws:List (Nat×Blk)}(he:evalOp P (evA s) h h.length o=some (.eff v ws))(hk:EVO P call ops rest (gX s o.dst v) (aN h ws) K)(hw:dk ops o s=some true:=by kernel_rfl):EVO P call ops (o::rest) s h K:=EVO.eff hw he hk
theorem EVT.pk{v:AV}(he:evalOp P (evA s) h h.length o=some (.pure v))(hk:EVT P call ops rest (gX s o.dst v) h (fun m p es=>KT m p (tT o s h v []::es)))(hw:dk ops o s=some true:=by kernel_rfl)(j:nq h.length (tT o s h v [])=true:=by kernel_rfl):EVT P call ops (o::rest) s h KT:=EVT.pure hw he j hk
theorem EVT.ek{v:AV}{ws:List (Nat×Blk)}(he:evalOp P (evA s) h h.length o=some (.eff v ws))(hk:EVT P call ops rest (gX s o.dst v) (aN h ws) (fun m p es=>KT m p (tT o s h v ws::es)))(hw:dk ops o s=some true:=by kernel_rfl)(j:nq h.length (tT o s h v ws)=true:=by kernel_rfl):EVT P call ops (o::rest) s h KT:=EVT.eff hw he j hk
end
theorem oj{α:Type}{x y:α}(h:some x=some y):y=x:=(Option.some.inj h).symm
theorem gS{α:Type _}{a b:α}:(some a).getD b=a:=rfl
theorem bT(b:Bool):b=true\/b=false:=Bool.eq_false_or_eq_true b
theorem Sp{H:List Blk}{ok:Nat->Bool}{A:AV}{m j:List AV}(k:SnL H ok m j)(h:nt A=[]:=by exact rfl):SnL H ok (A::m) (A::j):=SnL.cons (Sn.pure h) k
abbrev kT3:List (Nat×Bool):=[(0,true),(1,true),(2,true)]
abbrev kT5:List (Nat×Bool):=[(0,true),(1,true),(2,true),(3,true),(4,true)]
abbrev kT6:List (Nat×Bool):=[(0,true),(1,true),(2,true),(3,true),(4,true),(5,true)]
abbrev kF3:List (Nat×Bool):=[(0,false),(1,false),(2,false)]
abbrev kF4:List (Nat×Bool):=[(0,false),(1,false),(2,false),(3,false)]
theorem z1:0<1:=by decide
theorem kRf{p:Prop}(h:p:=by kernel_rfl):p:=h
theorem kRa{p q:Prop}(k:q)(h:p:=by kernel_rfl):p/\q:=⟨h,k⟩
theorem CQ.sh{K:Nat}{P:Program}{k:List Fr}{F:X->St->Prop}{x:X}{s:List AV}{h:List Blk}(c:CQ K P k F x ⟨s,h⟩):CQ K P k F x ⟨s,h⟩:=c
end Go.Eng

