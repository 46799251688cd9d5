import Derived.Test.YtfclmnpffhbcpaaGreatSc11Plds
set_option linter.unusedVariables false
set_option linter.unusedSectionVars false
namespace Go.Eng
open Go Go.RowKit
variable[Dr]
variable{K:Nat}
def zN(π π':List (Option PB)):Prop:=∀(i:Nat) (p:PB),π[i]?=some (some p)->∃p':PB,π'[i]?=some (some p')/\p'.blk=p.blk/\p'.off=p.off/\p'.size=p.size
section
variable{w:World}{mu mu':Nat->Prop}{π π':List (Option PB)}
mutual
theorem Rv.sim(hmu:∀b,mu' b->mu b)(hπ:zN π π'):(A:AV)->(v:Value)->Rv w mu π A v->Rv w mu' π' A v
 |.unk,_,_=>trivial
 |.at x,v,h=>h
 |.sl nl cs len,v,h=>mE hmu (.sl nl cs len) v rfl h
 |.pp cs off,v,h=>mE hmu (.pp cs off) v rfl h
 |.hs b off len es,v,h=>by
  rcases h with h|⟨p,a,cap,h1,h2,h3,h4,h5⟩
  ·exact .inl h
  ·obtain⟨p',g1,g2,g3,g4⟩:=hπ b p h1;exact .inr ⟨p',a,cap,g1,h2,h3,h4,by rw[g2,g3,g4];exact h5⟩
 |.hc b off len cap es,v,h=>by
  obtain⟨p,a,h1,h2,h3,h4,h5⟩:=h;obtain⟨p',g1,g2,g3,g4⟩:=hπ b p h1;exact⟨p',a,g1,h2,h3,h4,by rw[g2,g3,g4];exact h5⟩
 |.hp b off,v,h=>by
  obtain⟨p,h1,h2⟩:=h;obtain⟨p',g1,g2,g3,g4⟩:=hπ b p h1;exact⟨p',g1,by rw[g2,g3];exact h2⟩
 |.mp b,v,h=>by
  obtain⟨p,h1,h2⟩:=h;obtain⟨p',g1,g2,g3,g4⟩:=hπ b p h1;exact⟨p',g1,by rw[g2];exact h2⟩
 |.agg cs,v,h=>by
  obtain⟨vs,rfl,h1⟩:=h;exact⟨vs,rfl,RvL.sim hmu hπ cs _ h1⟩
 |.tup cs,v,h=>by
  obtain⟨vs,rfl,h1⟩:=h;exact⟨vs,rfl,RvL.sim hmu hπ cs _ h1⟩
 |.fn f fs cs,v,h=>by
  obtain⟨a,c,rfl,h1,h2⟩:=h;exact⟨a,c,rfl,RvL.sim hmu hπ fs _ h1,RvL.sim hmu hπ cs _ h2⟩
theorem RvL.sim(hmu:∀b,mu' b->mu b)(hπ:zN π π'):(cs:List AV)->(vs:List Value)->RvL w mu π cs vs->RvL w mu' π' cs vs
 |[],_,h=>h
 |c::cs,_,h=>by
  obtain⟨v,vs',rfl,h1,h2⟩:=h;exact⟨v,vs',rfl,Rv.sim hmu hπ c v h1,RvL.sim hmu hπ cs vs' h2⟩
end
theorem RvC.sim(hmu:∀b,mu' b->mu b)(hπ:zN π π'):∀(cs:List AV) (b o:Nat),RvC w mu π cs b o->RvC w mu' π' cs b o
 |[],_,_,_=>trivial
 |c::cs,b,o,h=>by
  obtain⟨⟨v,h1,h2,h3⟩,h4⟩:=h;exact⟨⟨v,h1,h2,Rv.sim hmu hπ c v h3⟩,RvC.sim hmu hπ cs b (o+1) h4⟩
theorem RvM.sim(hmu:∀b,mu' b->mu b)(hπ:zN π π'):∀(i:Nat) (es:List (Value×AV)) (l:List MapEntry),RvM w mu π i es l->RvM w mu' π' i es l
 |_,[],_,h=>h
 |i,(k,a)::es,_,h=>by
  obtain⟨e,l',rfl,h2,h0,h3,h4⟩:=h;exact⟨e,l',rfl,h2,h0,Rv.sim hmu hπ a _ h3,RvM.sim hmu hπ (i+1) es l' h4⟩
theorem RcV.sim(hmu:∀b,mu' b->mu b)(hπ:zN π π'){s:Option (Nat×Nat×Nat)}{x:RC}{v:Value}(h:RcV w mu π s x v):RcV w mu' π' s x v:=by
 cases x with
 |row len es cs=>exact tU.D6 hmu h
 |av A=>exact⟨h.1,Rv.sim hmu hπ A v h.2⟩
theorem fD.sim(hmu:∀b,mu' b->mu b)(hπ:zN π π'){p:PB}{x:Blk}(h:fD w mu π p x):fD w mu' π' p x:=by
 cases x with
 |dead=>trivial
 |own cs=>exact⟨h.1,RvC.sim hmu hπ cs _ _ h.2⟩
 |fix cs=>exact RvC.sim hmu hπ cs _ _ h
 |map es=>obtain⟨a,h1,h2⟩:=h;exact⟨a,h1,RvM.sim hmu hπ 0 es _ h2⟩
 |iter m n seen=>
  obtain⟨h0,q,h1,h2⟩:=h;obtain⟨q',g1,g2,_⟩:=hπ m q h1;exact⟨h0,q',g1,by rw[g2];exact h2⟩
 |rows rs=>
  obtain⟨h1,h2,h3⟩:=h;refine⟨h1,RvW.of _ _ _ _ fun i x hx=>?_,h3⟩;obtain⟨v,v1,v2⟩:=RvW.at h2 hx;exact⟨v,v1,v2.sim hmu hπ⟩
end
theorem Wk.GJ(b n:Nat){x y:Blk}{s:List AV}{h:List Blk}(hb:h[b]?=some x)(hm:x.gr=true)(hK:K<=b)(hnb:n≠b)
  (hy:∀(out B:Nat->Prop) (w:World) (π:List (Option PB)) (p:PB),Inv out B w π h->π[b]?=some (some p)->∃f:Nat->Option (Nat×Nat×Nat),
   (∀c,y.owns {p with subs:=f} c->x.owns p c\/∃z q,h[n]?=some z/\z.gr=true/\π[n]?=some (some q)/\z.owns q c)/\
   ∀(mu':Nat->Prop) (π':List (Option PB)),(∀c,mu' c->aY out π h c)->zN π π'->fD w mu' π' {p with subs:=f} y):
  Wk K ⟨s,h⟩ ⟨s,(h.set b y).set n .dead⟩:=fun out B w π a hR=>by
 have hI:=hR.inv;have hl:=hI.len;simp only at hI hl;have hbl:=aW hb;have split0:∀{j:Nat} {z:Blk},((h.set b y).set n .dead)[j]?=some z->z.isLive=true->(j=b/\z=y)\/(j≠b/\j≠n/\h[j]?=some z):=by
  intro j z g1 g2;rcases dZ g1 with⟨_,rfl⟩|⟨hn,g1⟩
  ·cases g2
  ·rcases dZ g1 with⟨rfl,rfl⟩|⟨hb',g1⟩
   ·exact .inl ⟨rfl,rfl⟩
   ·exact .inr ⟨fun e=>hb' e.symm,fun e=>hn e.symm,g1⟩
 cases hp:π[b]? with
 |none=>have:=List.getElem?_eq_none_iff.1 hp;omega
 |some op=>
  cases op with
  |none=>
   have hmu:∀c,aY out π ((h.set b y).set n .dead) c->aY out π h c:=by
    rintro c (ho|⟨j,z,q,g1,g2,g3,g4⟩)
    ·exact .inl ho
    ·rcases split0 g1 (Blk.df g2)with⟨rfl,_⟩|⟨_,_,g1⟩
     ·rw[hp]at g3;cases g3
     ·exact .inr ⟨j,z,q,g1,g2,g3,g4⟩
   have hE:Ext B w w (aY out π h) (aY out π ((h.set b y).set n .dead)) π π:=⟨fun _ _=>rfl,Nat.le_refl _,fun c _ hc=>⟨rfl,fun hc'=>hc (hmu c hc')⟩,fun _ _ h=>h,rfl,rfl,rfl,fun _=>Nat.le_refl _⟩;refine⟨π,⟨hR.defers,RvL.ext hE _ _ hR.slots,⟨by simp[hl],hI.bound,hI.out_lt,?_,?_,?_⟩⟩,hmu,qs.refl π⟩
   ·intro j z q c g1 g2 g3;rcases split0 g1 (Blk.eY g3)with⟨rfl,_⟩|⟨_,_,g1⟩
    ·rw[hp]at g2;cases g2
    ·exact hI.baseO j z q c g1 g2 g3
   ·intro j z q g1 g2;cases hz:z.isLive with
    |false=>cases z<;>simp_all [Blk.isLive,fD]
    |true=>
     rcases split0 g1 hz with⟨rfl,_⟩|⟨_,_,g1⟩
     ·rw[hp]at g2;cases g2
     ·exact fD.ext hE (fun _ _=>rfl) (hI.ok j z q g1 g2)
   ·intro i j z t q r c hij g1 g2 g3 g4 g5 g6 g7;rcases split0 g1 (Blk.df g5)with⟨rfl,_⟩|⟨_,_,g1⟩
    ·rw[hp]at g3;cases g3
    ·rcases split0 g2 (Blk.eY g7)with⟨rfl,_⟩|⟨_,_,g2⟩
     ·rw[hp]at g4;cases g4
     ·exact hI.sepO i j z t q r c hij g1 g2 g3 g4 g5 g6 g7
  |some p=>
   obtain⟨f,hox,hok⟩:=hy out B w π p hI hp;have hsim:zN π (π.set b (some {p with subs:=f})):=by
    intro i q hq;by_cases hib:i=b
    ·subst hib;rw[hp]at hq;cases hq;exact⟨{p with subs:=f},by rw[List.getElem?_set_self (by omega)],rfl,rfl,rfl⟩
    ·exact⟨q,by rw[List.getElem?_set_ne (fun e=>hib e.symm)];exact hq,rfl,rfl,rfl⟩
   have split:∀{j:Nat} {z:Blk} {q:PB},((h.set b y).set n .dead)[j]?=some z->(π.set b (some {p with subs:=f}))[j]?=some (some q)->z.isLive=true->(j=b/\z=y/\q={p with subs:=f})\/(j≠b/\j≠n/\h[j]?=some z/\π[j]?=some (some q)):=by
    intro j z q g1 g2 g3;rcases split0 g1 g3 with⟨rfl,rfl⟩|⟨k1,k2,g1⟩
    ·rw[List.getElem?_set_self (by omega)]at g2;cases g2;exact .inl ⟨rfl,rfl,rfl⟩
    ·rw[List.getElem?_set_ne (fun e=>k1 e.symm)]at g2;exact .inr ⟨k1,k2,g1,g2⟩
   have hmu:∀c,aY out (π.set b (some {p with subs:=f})) ((h.set b y).set n .dead) c->aY out π h c:=by
    rintro c (ho|⟨j,z,q,g1,g2,g3,g4⟩)
    ·exact .inl ho
    ·rcases split g1 g3 (Blk.df g2)with⟨rfl,rfl,rfl⟩|⟨_,_,g1,g3⟩
     ·rcases hox c g4 with h1|⟨z,q,h1,h2,h3,h4⟩
      ·exact .inr ⟨j,x,p,hb,hm,hp,h1⟩
      ·exact .inr ⟨n,z,q,h1,h2,h3,h4⟩
     ·exact .inr ⟨j,z,q,g1,g2,g3,g4⟩
   refine⟨π.set b (some {p with subs:=f}),⟨hR.defers,RvL.sim hmu hsim _ _ hR.slots,⟨by simp[hl],hI.bound,hI.out_lt,?_,?_,?_⟩⟩,hmu,fun i hi q hq=>?_⟩
   ·intro j z q c g1 g2 g3;rcases split g1 g2 (Blk.eY g3)with⟨rfl,rfl,rfl⟩|⟨_,_,g1,g2⟩
    ·rcases hox c g3 with h1|⟨z,q,h1,h2,h3,h4⟩
     ·exact hI.baseO j x p c hb hp h1
     ·exact hI.baseO n z q c h1 h3 h4
    ·exact hI.baseO j z q c g1 g2 g3
   ·intro j z q g1 g2;cases hz:z.isLive with
    |false=>cases z<;>simp_all [Blk.isLive,fD]
    |true=>
     rcases split g1 g2 hz with⟨rfl,rfl,rfl⟩|⟨_,_,g1,g2⟩
     ·exact hok _ _ hmu hsim
     ·exact fD.sim hmu hsim (hI.ok j z q g1 g2)
   ·intro i j z t q r c hij g1 g2 g3 g4 g5 g6 g7;rcases split g1 g3 (Blk.df g5)with⟨rfl,rfl,rfl⟩|⟨i1,i2,m1,m3⟩
    ·rcases split g2 g4 (Blk.eY g7)with⟨rfl,_,_⟩|⟨j1,j2,g2,g4⟩
     ·exact(hij rfl).elim
     ·rcases hox c g6 with h1|⟨z,q,h1,h2,h3,h4⟩
      ·exact hI.sepO i j x t p r c hij hb g2 hp g4 hm h1 g7
      ·exact hI.sepO n j z t q r c (fun e=>j2 e.symm) h1 g2 h3 g4 h2 h4 g7
    ·rcases split g2 g4 (Blk.eY g7)with⟨rfl,rfl,rfl⟩|⟨j1,j2,g2,g4⟩
     ·rcases hox c g7 with h1|⟨z',q',h1,h2,h3,h4⟩
      ·exact hI.sepO i j z x q p c hij m1 hb m3 hp g5 g6 h1
      ·exact hI.sepO i n z z' q q' c i2 m1 h1 m3 h3 g5 g6 h4
     ·exact hI.sepO i j z t q r c hij m1 g2 m3 g4 g5 g6 g7
   ·rw[List.getElem?_set_ne (by omega)];exact hq
theorem Wk.GK(b:Nat){x y:Blk}{s:List AV}{h:List Blk}(hb:h[b]?=some x)(hm:x.gr=true)(hK:K<=b)
  (hy:∀(out B:Nat->Prop) (w:World) (π:List (Option PB)) (p:PB),Inv out B w π h->π[b]?=some (some p)->∃f:Nat->Option (Nat×Nat×Nat),
   (∀c,y.owns {p with subs:=f} c->x.owns p c)/\
   ∀(mu':Nat->Prop) (π':List (Option PB)),(∀c,mu' c->aY out π h c)->zN π π'->fD w mu' π' {p with subs:=f} y):
  Wk K ⟨s,h⟩ ⟨s,h.set b y⟩:=by
 have hbl:=aW hb;have:=Wk.GJ (K:=K) (s:=s) b h.length (y:=y) hb hm hK (by omega) (fun out B w π p hI hp=>by
  obtain⟨f,h1,h2⟩:=hy out B w π p hI hp;exact⟨f,fun c hc=>.inl (h1 c hc),h2⟩)
 rwa[List.set_eq_of_length_le (by simp)]at this
theorem xq(A:AV):∀(n i:Nat),i<n->(eu [A] n)[i]?=some A
 |0,i,h=>by omega
 |n+1,0,_=>rfl
 |n+1,i+1,h=>by simpa [eu]using xq A n i (by omega)
theorem Wk.FZ(b es n:Nat){s:List AV}{h:List Blk}(hb:h[b]?=some (.own (eu [.at (.slice none 0 0)] n)))(hK:Nat.ble K b=true:=by kernel_rfl):Wk K ⟨s,h⟩ ⟨s,h.set b (.rows (List.replicate n (.row 0 es [])))⟩:=
 Wk.GK b hb rfl (lbT hK) fun out B w π p hI hp=>by
  refine⟨fun _=>none,?_,fun mu' π' hmu hπ=>?_⟩
  ·rintro c (h|⟨k,l,e,cs,q,_,h,_⟩)
   ·exact h
   ·cases h
  ·obtain⟨h1,h2⟩:=hI.ok b _ p hb hp;refine⟨h1,RvW.of _ _ _ _ fun i x hx=>?_,And.intro (fun k l e cs q _ h=>by cases h) (fun k k' l e l2 e2 cs cs2 q q' _ _ _ h=>by cases h)⟩;have hi:i<n:=by have:=aW hx;simpa using this
   have hx:x=.row 0 es []:=by
    have:=List.mem_of_getElem? hx;exact(List.mem_replicate.1 this).2
   subst hx;obtain⟨v,v1,v2,v3⟩:=RvC.get _ _ _ i _ h2 (xq _ n i hi);exact⟨v,v1,.inl ⟨rfl,rfl,v3⟩⟩
theorem Wk.FT(b k n:Nat){rs:List RC}{len es:Nat}{cs:List AV}{s:List AV}{h:List Blk}(hb:h[b]?=some (.rows rs))(hk:rs[k]?=some (.av (.hs n 0 len es)))(hn:h[n]?=some (.own cs))(hp0:dd cs=[])(h0:len=0->cs=[])(hK:Nat.ble K b=true:=by kernel_rfl)(hnb:Nat.beq n b=false:=by kernel_rfl):
  Wk K ⟨s,h⟩ ⟨s,(h.set b (.rows (rs.set k (.row len es cs)))).set n .dead⟩:=
 have hnb:n≠b:=fun e=>by rw[e]at hnb;have:=Nat.beq_refl b;rw[hnb]at this;cases this
 Wk.GJ b n hb rfl (lbT hK) hnb fun out B w π p hI hp=>by
  have hkl:=aW hk;obtain⟨h1,h2,s1,s2⟩:=hI.ok b _ p hb hp;obtain⟨v,v1,v2,v3⟩:=RvW.av rs _ _ _ k _ h2 hk;have rowsOf:∀{k' len' es':Nat} {cs':List AV},(rs.set k (.row len es cs))[k']?=some (.row len' es' cs')->k'≠k->rs[k']?=some (.row len' es' cs'):=by
   intro k' len' es' cs' g hne;rcases dZ g with⟨e,_⟩|⟨_,g⟩
   ·exact(hne e.symm).elim
   ·exact g
  let f:Nat->Option (Nat×Nat×Nat):=fun i=>if i=k then(match π[n]? with|some (some q)=>some (q.blk,q.off,q.size)|_=>none)else p.subs i
  have fk:∀{sq:Nat×Nat×Nat},f k=some sq->∃q,π[n]?=some (some q)/\sq=(q.blk,q.off,q.size):=by
   intro sq e;simp only[f,if_true]at e;split at e
   ·rename_i q hq;cases e;exact⟨q,hq,rfl⟩
   ·cases e
  have fo:∀{i:Nat},i≠k->f i=p.subs i:=fun hi=>by simp only[f,if_neg hi]
  refine⟨f,?_,fun mu' π' hmu hπ=>⟨h1,RvW.of _ _ _ _ fun i x hx=>?_,And.intro ?_ ?_⟩⟩
  ·rintro c (g|⟨k',l',e',c',q,g1,g2,g3⟩)
   ·exact .inl (.inl g)
   ·by_cases hkk:k'=k
    ·subst hkk;obtain⟨q',e1,rfl⟩:=fk g2;exact .inr ⟨_,q',hn,rfl,e1,g3⟩
    ·exact .inl (.inr ⟨k',l',e',c',q,rowsOf g1 hkk,(fo hkk).symm.trans g2,g3⟩)
  ·rcases dZ hx with⟨rfl,rfl⟩|⟨hne,hx⟩
   ·refine⟨v,v1,?_⟩;rcases v3 with⟨e1,e2⟩|⟨q,a,cap,g1,g2,g3,g4,g5⟩
    ·exact .inl ⟨e1,h0 e1,e2⟩
    ·obtain⟨⟨c,e,o1,o2⟩,o3⟩:=hI.ok n _ q hn g1;refine .inr ⟨(q.blk,q.off,q.size),a,cap,c,e,?_,g2,g3,g4,by simpa using g5,o1,o2,h0,mm hmu cs _ _ hp0 o3⟩;simp only[f,if_true,g1]
   ·obtain⟨u,u1,u2⟩:=RvW.at h2 hx;exact⟨u,u1,by show RcV w mu' π' (f i) x u;rw[fo (fun e=>hne e.symm)];exact u2.sim hmu hπ⟩
  ·intro k' l' e' c' q g1 g2;by_cases hkk:k'=k
   ·subst hkk;obtain⟨q',e1,rfl⟩:=fk g2;exact fun e=>hI.sepO n b _ _ q' p p.blk hnb hn hb e1 hp rfl e (.inl rfl)
   ·exact s1 k' l' e' c' q (rowsOf g1 hkk) ((fo hkk).symm.trans g2)
  ·intro k1 k2 l1 e1 l2 e2 c1 c2 q1 q2 hk12 g1 g2 g3 g4;by_cases hk1:k1=k
   ·subst hk1;have hk2:k2≠k1:=fun e=>hk12 e.symm
    obtain⟨q',i1,rfl⟩:=fk g3;exact fun e=>hI.sepO n b _ _ q' p q2.1 hnb hn hb i1 hp rfl e (.inr ⟨k2,l2,e2,c2,q2,rowsOf g2 hk2,(fo hk2).symm.trans g4,rfl⟩)
   ·by_cases hk2:k2=k
    ·subst hk2;obtain⟨q',i1,rfl⟩:=fk g4;exact fun e=>hI.sepO n b _ _ q' p q1.1 hnb hn hb i1 hp rfl e.symm (.inr ⟨k1,l1,e1,c1,q1,rowsOf g1 hk1,(fo hk1).symm.trans g3,rfl⟩)
    ·exact s2 k1 k2 l1 e1 l2 e2 c1 c2 q1 q2 hk12 (rowsOf g1 hk1) (rowsOf g2 hk2) ((fo hk1).symm.trans g3) ((fo hk2).symm.trans g4)
theorem Sn.hsR{H:List Blk}{ok:Nat->Bool}{b len:Nat}{rs:List RC}(hok:ok b=true)(hb:H[b]?=some (.rows rs))(hp:dd (rs.map frz)=[])(h0:len=0->rs=[]):Sn H ok (.hs b 0 len 1) (.sl true (rs.map frz) len):=fun w mu mu' π v hL hm hv=>by
 rcases hv with⟨rfl,rfl⟩|⟨p,a,cap,h1,rfl,h2,hsp,h3⟩
 ·exact .inl ⟨rfl,rfl,by rw[h0 rfl];rfl,rfl⟩
 ·obtain⟨g1,g2⟩:=hL.rows b p rs hok hb h1;obtain⟨ab,ao,asp⟩:=a;simp only at hsp;subst hsp;by_cases hcap:0<cap
  ·obtain⟨e1,_⟩:=h3 hcap;cases e1;exact .inr (.inl ⟨_,_,cap,rfl,h2,fun _=>g2,mm (fun _ h=>h) _ _ _ hp g1⟩)
  ·have:rs=[]:=h0 (by omega);subst this;exact .inr (.inl ⟨ab,ao,cap,rfl,h2,fun h=>(h rfl).elim,trivial⟩)
end Go.Eng
namespace Go.L
open Go Go.Eng
variable[Dr]
variable{K:Nat}
def rwA{α:Type}(es:Nat)(c:α->List AV)(l:List α):RC:=.row l.length es (l.flatMap c)
def rws{α:Type}(es:Nat)(c:α->List AV)(e:List (List α)):List RC:=e.map (rwA es c)
section
variable{α:Type}{es:Nat}{c:α->List AV}{e:List (List α)}
theorem ti:(rws es c e).length=e.length:=by simp[rws]
theorem CM:(rws es c e).map frz=e.flatMap (slC c):=by
 induction e with
 |nil=>rfl
 |cons x e ih=>rw[List.flatMap_cons,<-ih];rfl
theorem Fl:tZ (rws es c e)=[]:=by
 induction e with
 |nil=>rfl
 |cons x e ih=>exact ih
theorem EX{x:List α}:rws es c e++[rwA es c x]=rws es c (e++[x]):=by simp[rws]
theorem rap{A:AV}{i nid len:Nat}{by_:Nat}(hl:len=e.length)(h2:decide ((e.length+1)*by_<=140737488355328)=true)(h3:decide (e.length+1<=4611686018427387904)=true):
  lJ (decide (len<=(rws es c e).length)&&decide ((len+1)*by_<=140737488355328)&&decide (len+1<=4611686018427387904)&&true) (some (.eff (.hs nid 0 (len+1) 1) [(i,.dead),(nid,.rows ((rws es c e).take len++[.av A]))]))=
   some (.eff (.hs nid 0 (e.length+1) 1) [(i,.dead),(nid,.rows (rws es c e++[.av A]))]):=by
 subst hl;have h1:decide (e.length<=(rws es c e).length)=true:=decide_eq_true (by rw[ti];exact Nat.le_refl _);rw[h1,h2,h3,List.take_of_length_le (by rw[ti];exact Nat.le_refl _)];rfl
theorem Gf{n:Int}{by_:Nat}{r:ct}(h:decide (0<=n)=true)(h2:decide ((by_:Int)*n<=281474976710656)=true)(h3:decide (n<=9223372036854775807)=true):
  lJ (decide (0<=n)&&decide (n<=n)&&decide ((by_:Int)*n<=281474976710656)&&decide (n<=9223372036854775807)&&true&&true&&true) (some r)=some r:=by
 have:decide (n<=n)=true:=by simp
 rw[h,h2,h3,this];rfl
section
variable{s:List AV}{h:List Blk}
theorem Wk.mkT(b:Nat){n:Nat}(es:Nat)(c:α->List AV)(hb:h[b]?=some (.own (eu [.at (.slice none 0 0)] n)):=by kernel_rfl)(hK:Nat.ble K b=true:=by kernel_rfl):Wk K ⟨s,h⟩ ⟨s,h.set b (.rows (rws es c (List.replicate n [])))⟩:=by
 have:=Wk.FZ (K:=K) (s:=s) b es n hb hK;have e:rws es c (List.replicate n [])=List.replicate n (.row 0 es []):=by simp[rws,rwA]
 rw[e];exact this
theorem Wk.Gk(b n:Nat){x:List α}{len:Nat}(hp:∀y,dd (c y)=[])(hl:x.length=len)(hb:h[b]?=some (.rows (rws es c e++[.av (.hs n 0 len es)])):=by kernel_rfl)(hn:h[n]?=some (.own (x.flatMap c)):=by kernel_rfl)(hK:Nat.ble K b=true:=by kernel_rfl)(hnb:Nat.beq n b=false:=by kernel_rfl):
  Wk K ⟨s,h⟩ ⟨s,(h.set b (.rows (rws es c (e++[x])))).set n .dead⟩:=by
 subst hl;have:=Wk.FT (K:=K) (s:=s) b e.length n hb (by rw[List.getElem?_append_right (by rw[ti];exact Nat.le_refl _),ti,Nat.sub_self];rfl) hn (az hp x) (fun h=>cu h) hK hnb;rw[List.set_append_right _ _ (by rw[ti];exact Nat.le_refl _),ti,Nat.sub_self]at this;rw[<-EX];exact this
end
section
variable{g:List (Option (List α))}{s:List AV}{h:List Blk}
end
theorem Sn.rw{H:List Blk}{ok:Nat->Bool}{b:Nat}(hok:ok b=true:=by kernel_rfl)(hb:H[b]?=some (.rows (rws es c e)):=by kernel_rfl):Sn H ok (.hs b 0 e.length 1) (slT (slC c) e):=by
 have:=Sn.hsR (len:=e.length) hok hb (by rw[CM];exact az (pg c) e) (fun h0=>by
  have:e=[]:=List.length_eq_zero_iff.1 h0;subst this;rfl)
 rwa[CM]at this
theorem pKr{H:List Blk}{b:Nat}{l:List (Nat×Bool)}(es:Nat)(c:α->List AV)(e:List (List α))(rest:mz H l)(hb:H[b]?=some (.rows (rws es c e)):=by kernel_rfl):mz H ((b,false)::l):=
 ⟨by rw[hb];exact Fl,rest⟩
end
end Go.L


set_option linter.all false
namespace Go.Eng
open Go Go.RowKit
variable[Dr]
variable{K:Nat}
theorem Wk.cells(i:Nat){cs cs':List AV}{s:List AV}{h:List Blk}(hC:∀(w:World) (mu:Nat->Prop) (π:List (Option PB)) (b o:Nat),RvC w mu π cs b o->RvC w mu π cs' b o)(hb:h[i]?=some (.own cs)):Wk K ⟨s,h⟩ ⟨s,h.set i (.own cs')⟩:=fun out B w π a hR=>by
 have hI:=hR.inv;have hil:=aW hb;have g:∀{k:Nat} {x:Blk},(h.set i (.own cs'))[k]?=some x->(k=i/\x=.own cs')\/(k≠i/\h[k]?=some x):=by
  intro k x hk;by_cases hki:k=i
  ·subst hki;rw[List.getElem?_set_self hil]at hk;exact .inl ⟨rfl,(Option.some.inj hk).symm⟩
  ·rw[List.getElem?_set_ne (fun e=>hki e.symm)]at hk;exact .inr ⟨hki,hk⟩
 have old:∀{k:Nat} {x:Blk},(h.set i (.own cs'))[k]?=some x->∃y,h[k]?=some y/\y.isLive=x.isLive/\y.gr=x.gr/\(∀p b,x.owns p b->y.owns p b):=by
  intro k x hk;rcases g hk with⟨rfl,rfl⟩|⟨_,hk⟩
  ·exact⟨_,hb,rfl,rfl,fun _ _ h=>h⟩
  ·exact⟨x,hk,rfl,rfl,fun _ _ h=>h⟩
 have hmu:aY out π (h.set i (.own cs'))=aY out π h:=by
  funext b;apply propext;constructor
  ·rintro(hb|⟨k,x,p,h1,h2,h3,h4⟩)
   ·exact .inl hb
   ·obtain⟨y,y1,_,y3,y4⟩:=old h1;exact .inr ⟨k,y,p,y1,by rw[y3];exact h2,h3,y4 _ _ h4⟩
  ·rintro(hb'|⟨k,x,p,h1,h2,h3,h4⟩)
   ·exact .inl hb'
   ·by_cases hki:k=i
    ·subst hki;rw[hb]at h1;cases h1;exact .inr ⟨k,.own cs',p,List.getElem?_set_self hil,rfl,h3,h4⟩
    ·exact .inr ⟨k,x,p,by rw[List.getElem?_set_ne (fun e=>hki e.symm)];exact h1,h2,h3,h4⟩
 refine⟨π,⟨hR.defers,?_,?_⟩,fun b hb=>?_,qs.refl π⟩
 ·simp only[hmu];exact hR.slots
 ·refine⟨by simpa using hI.len,hI.bound,hI.out_lt,?_,?_,?_⟩
  ·intro k x p b h1 h2 h3;obtain⟨y,y1,_,_,y4⟩:=old h1;exact hI.baseO k y p b y1 h2 (y4 _ _ h3)
  ·intro k x p h1 h2;simp only[hmu];rcases g h1 with⟨rfl,rfl⟩|⟨_,hk⟩
   ·obtain⟨o1,o2⟩:=hI.ok k _ p hb h2;exact⟨o1,hC _ _ _ _ _ o2⟩
   ·exact hI.ok k x p hk h2
  ·intro k l x y p q b hkl h1 h2 h3 h4 h5 h6 h7;obtain⟨x',x1,_,x3,x4⟩:=old h1;obtain⟨y',y1,_,_,y4⟩:=old h2;exact hI.sepO k l x' y' p q b hkl x1 y1 h3 h4 (by rw[x3];exact h5) (x4 _ _ h6) (y4 _ _ h7)
 ·rw[hmu]at hb;exact hb
theorem Wk.unk(i j:Nat){A:AV}{cs:List AV}{s:List AV}{h:List Blk}(hb:h[i]?=some (.own cs):=by kernel_rfl)(hc:cs[j]?=some A:=by kernel_rfl):Wk K ⟨s,h⟩ ⟨s,h.set i (.own (cs.set j .unk))⟩:=Wk.cell i j (A:=A) (fun _ _ _ _ _=>trivial) hb hc
def LTo:List AV->List AV->Prop
 |[],[]=>True
 |a::l,b::m=>nw a b/\LTo l m
 |_,_=>False
theorem LTo.rvc{w:World}{mu:Nat->Prop}{π:List (Option PB)}:∀{l m r r':List AV} {b o:Nat},LTo l m->(∀o,RvC w mu π r b o->RvC w mu π r' b o)->RvC w mu π (l++r) b o->RvC w mu π (m++r') b o
 |[],[],_,_,_,_,_,h,k=>h _ k
 |x::l,y::m,_,_,_,_,h,hr,⟨⟨v,v1,v2,v3⟩,k⟩=>⟨⟨v,v1,v2,h.1 _ _ _ _ v3⟩,LTo.rvc h.2 hr k⟩
 |[],_::_,_,_,_,_,h,_,_=>h.elim
 |_::_,[],_,_,_,_,h,_,_=>h.elim
theorem LTo.nil:LTo [] []:=trivial
theorem LTo.cons{a b:AV}{l m:List AV}(h:nw a b)(k:LTo l m):LTo (a::l) (b::m):=⟨h,k⟩
theorem LTo.refl:∀l:List AV,LTo l l
 |[]=>trivial
 |_::l=>⟨nw.refl _,LTo.refl l⟩
theorem yP{α:Type}{c:α->List AV}{z:α}{zc:List AV}(hz:LTo zc (c z)){w:World}{mu:Nat->Prop}{π:List (Option PB)}:∀(n b o:Nat),RvC w mu π (eu zc n) b o->RvC w mu π ((List.replicate n z).flatMap c) b o
 |0,_,_,_=>trivial
 |n+1,b,o,k=>by
  rw[List.replicate_succ,List.flatMap_cons];exact LTo.rvc hz (fun o=>yP hz n b o) k
theorem Wk.GR(b:Nat){α:Type}(c:α->List AV)(z:α){zc:List AV}{n:Nat}{s:List AV}{h:List Blk}(hz:LTo zc (c z))(hb:h[b]?=some (.own (eu zc n)):=by kernel_rfl):Wk K ⟨s,h⟩ ⟨s,h.set b (.own ((List.replicate n z).flatMap c))⟩:=Wk.cells b (fun w mu π b o=>yP hz n b o) hb
section
variable{α:Type}{c:α->List AV}{es:Nat}{l:List α}
theorem DW(hc:∀x,(c x).length=es){xs:List α}{new:List AV}{i nid m by_ len:Nat}(hlen:len=l.length)(hm:xs.length=m)(h2:decide ((l.length+m)*by_<=140737488355328)=true)(h3:decide (l.length+m<=4611686018427387904)=true):
  lJ (decide (0+len*es<=(l.flatMap c).length)&&decide ((len+m)*by_<=140737488355328)&&decide (len+m<=4611686018427387904)) (some (.eff (.hs nid 0 (len+m) es) [(i,.dead),(nid,.own (((l.flatMap c).drop 0).take (len*es)++new))]))=
   some (.eff (.hs nid 0 (l++xs).length es) [(i,.dead),(nid,.own (l.flatMap c++new))]):=by
 subst hlen;have h1:decide (0+l.length*es<=(l.flatMap c).length)=true:=by rw[decide_eq_true_eq,jK hc];omega
 have h4:((l.flatMap c).drop 0).take (l.length*es)=l.flatMap c:=by rw[List.drop_zero,<-jK hc,List.take_length]
 rw[h1,h2,h3,h4,List.length_append,hm];rfl
theorem Wk.Hj(b:Nat)(c:α->List AV)(l xs:List α){new:List AV}{s:List AV}{h:List Blk}(hz:LTo new (xs.flatMap c))(hb:h[b]?=some (.own (l.flatMap c++new)):=by kernel_rfl):Wk K ⟨s,h⟩ ⟨s,h.set b (.own ((l++xs).flatMap c))⟩:=Wk.cells b (fun w mu π b o hr=>by
 rw[List.flatMap_append];refine LTo.rvc (LTo.refl _) (fun o hr=>?_) hr;rw[<-List.append_nil new]at hr;rw[<-List.append_nil (xs.flatMap c)];exact LTo.rvc hz (fun _ h=>h) hr) hb
end
end Go.Eng

