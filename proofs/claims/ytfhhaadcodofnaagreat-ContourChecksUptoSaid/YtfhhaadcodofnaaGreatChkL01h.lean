import Derived.Test.YtfhhaadcodofnaaGreatChkL01k
set_option linter.all false
namespace Go.L
open Go Go.Eng
theorem zo{k:Nat}(h:1<k)(h2:k<=4000000000):Ki ((k:Int)-2)=((k-2:Nat):Int):=by rw[wrap64_in (by omega) (by omega)];omega
theorem wq{l:List Int}{k j:Nat}{x:Int}(h:j<=k):vk (l.set k x) j=vk l j:=by unfold vk;rw[List.take_set_of_le h]
def Ff(v j:List Int)(m:Nat)(r:List Int×List Int):Prop:=Dig r.1/\Dig r.2/\r.1.length=m/\r.2.length=j.length/\vl r.2<vl v/\vl r.2+vl r.1*vl v=vl j
theorem HD{n:Nat}(hn:1000<=n){v u0:List Int}{m:Nat}(hv:Dig v)(j4:500000000<=v.getD (v.length-1) 0)(lv:2<=v.length)(e6:v.length<=400)(hu:Dig u0)(lu:u0.length=v.length+m)(k6:u0.length<=900)(h0:vl (u0.drop m)<vl v){j0:Int}(j5:j0=(m:Int)-1):
  Ok (aP (α:=List Int×List Int×Int) (β:=List Int×List Int) n (fun b9 (c0,b4,C)=>(
   cdO (decide (C>=0)) (
    bdO (iF n b4 (Ki (C+(v.length:Int)))) fun e7=>(
    gdO (inR (Ki ((Ki (C+(v.length:Int)))-1)) b4.length) (
    gdO (inR (Ki ((v.length:Int)-1)) v.length) (
    gdO (!decide (ae .u64 (gt v (Ki ((v.length:Int)-1)))=0)) (
    bdO (aP (α:=Int×Int) (β:=Int) n (fun b5 (J,U)=>(
     cdO (decide (J>=1000000000)) (
      cdO (decide ((ae .u64 (U+(ae .u64 (gt v (Ki ((v.length:Int)-1))))))>=1000000000)) (
       some (ae .u64 (J-1))
      ) (
       b5 (ae .u64 (J-1),ae .u64 (U+(ae .u64 (gt v (Ki ((v.length:Int)-1))))))
      )
     ) (
      gdO (inR (Ki ((v.length:Int)-2)) v.length) (
      gdO (inR (Ki ((Ki (C+(v.length:Int)))-2)) b4.length) (
      cdO (decide ((ae .u64 (J*(ae .u64 (gt v (Ki ((v.length:Int)-2))))))>(ae .u64 ((ae .u64 (U*1000000000))+(ae .u64 (gt b4 (Ki ((Ki (C+(v.length:Int)))-2)))))))) (
       cdO (decide ((ae .u64 (U+(ae .u64 (gt v (Ki ((v.length:Int)-1))))))>=1000000000)) (
        some (ae .u64 (J-1))
       ) (
        b5 (ae .u64 (J-1),ae .u64 (U+(ae .u64 (gt v (Ki ((v.length:Int)-1))))))
       )
      ) (
       some (J)
      )
      )
      )
     )
    )) (ae .u64 ((ae .u64 ((ae .u64 ((ae .u64 e7)*1000000000))+(ae .u64 (gt b4 (Ki ((Ki (C+(v.length:Int)))-1)))))).tdiv (ae .u64 (gt v (Ki ((v.length:Int)-1))))),(ae .u64 ((ae .u64 ((ae .u64 e7)*1000000000))+(ae .u64 (gt b4 (Ki ((Ki (C+(v.length:Int)))-1)))))).tmod (ae .u64 (gt v (Ki ((v.length:Int)-1)))))) fun E=>(
     bdO (aP (α:=List Int×Int×Int×Int) (β:=List Int×Int×Int) n (fun b6 (a7,T,N,I)=>(
      cdO (decide (I<(v.length:Int))) (
       gdO (inR I v.length) (
       gdO (inR (Ki (I+C)) a7.length) (
       cdO (decide ((Ki ((Ki ((Ki (gt a7 (Ki (I+C))))-T))-(Ki ((ae .u64 ((ae .u64 (E*(ae .u64 (gt v I))))+N)).tmod 1000000000))))<0)) (
        b6 (a7.set (Ki (I+C)).toNat (ae .u32 (Ki ((Ki ((Ki ((Ki (gt a7 (Ki (I+C))))-T))-(Ki ((ae .u64 ((ae .u64 (E*(ae .u64 (gt v I))))+N)).tmod 1000000000))))+1000000000))),1,ae .u64 ((ae .u64 ((ae .u64 (E*(ae .u64 (gt v I))))+N)).tdiv 1000000000),Ki (I+1))
       ) (
        b6 (a7.set (Ki (I+C)).toNat (ae .u32 (Ki ((Ki ((Ki (gt a7 (Ki (I+C))))-T))-(Ki ((ae .u64 ((ae .u64 (E*(ae .u64 (gt v I))))+N)).tmod 1000000000))))),0,ae .u64 ((ae .u64 ((ae .u64 (E*(ae .u64 (gt v I))))+N)).tdiv 1000000000),Ki (I+1))
       )
       )
       )
      ) (
       some ((a7,T,N))
      )
     )) (b4,0,0,0)) fun e8=>(
      match e8 with
      |(b3,Y,a8)=>(
       gdO (inR (Ki (C+(v.length:Int))) b3.length) (
       cdO (decide ((Ki ((Ki ((Ki (gt b3 (Ki (C+(v.length:Int)))))-Y))-(Ki a8)))<0)) (
        bdO (aP (α:=List Int×Int×Int) (β:=List Int×Int) n (fun b7 (b0,b8,O)=>(
         cdO (decide (O<(v.length:Int))) (
          gdO (inR (Ki (O+C)) b0.length) (
          gdO (inR O v.length) (
          cdO (decide ((ae .u32 ((ae .u32 ((gt b0 (Ki (O+C)))+(gt v O)))+b8))>=1000000000)) (
           b7 (b0.set (Ki (O+C)).toNat (ae .u32 ((ae .u32 ((ae .u32 ((gt b0 (Ki (O+C)))+(gt v O)))+b8))-1000000000)),1,Ki (O+1))
          ) (
           b7 (b0.set (Ki (O+C)).toNat (ae .u32 ((ae .u32 ((gt b0 (Ki (O+C)))+(gt v O)))+b8)),0,Ki (O+1))
          )
          )
          )
         ) (
          some ((b0,b8))
         )
        )) (b3.set (Ki (C+(v.length:Int))).toNat (ae .u32 (Ki ((Ki ((Ki ((Ki (gt b3 (Ki (C+(v.length:Int)))))-Y))-(Ki a8)))+1000000000))),0,0)) fun e9=>(
         match e9 with
         |(c4,e3)=>(
          gdO (inR (Ki (C+(v.length:Int))) c4.length) (
          gdO (inR C c0.length) (
          b9 (c0.set C.toNat (ae .u32 (ae .u64 (E-1))),c4.set (Ki (C+(v.length:Int))).toNat ((ae .u32 ((gt c4 (Ki (C+(v.length:Int))))+e3)).tmod 1000000000),Ki (C-1))
          )
          )
         ))
       ) (
        gdO (inR C c0.length) (
        b9 (c0.set C.toNat (ae .u32 E),b3.set (Ki (C+(v.length:Int))).toNat (ae .u32 (Ki ((Ki ((Ki (gt b3 (Ki (C+(v.length:Int)))))-Y))-(Ki a8)))),Ki (C-1))
        )
       )
       )
      ))
    )
    )
    )
    )
    )
   ) (
    some ((c0,b4))
   )
  )) (List.replicate m (0:Int),u0,j0)) (Ff v u0 m):=by
 subst j5;have hV:=bn hv;refine eE (fun x:List Int×List Int×Int=>∃k:Nat,x.2.2=(k:Int)-1/\k<=m/\x.2.1.length=u0.length/\Dig x.2.1/\x.1.length=m/\Dig x.1/\(∀i,i<k->x.1.getD i 0=0)/\vl (x.2.1.drop k)<vl v/\vl x.2.1+vl x.1*vl v=vl u0) (fun x=>(x.2.2+1).toNat) ?_ n _
  ⟨m,rfl,Nat.le_refl _,rfl,hu,by simp,rI _,fun i _=>vR,h0,by simp[vK]⟩ (by simp;omega)
 rintro again ⟨q,u,x⟩ ⟨k,hx,h1,h2,h3,h4,h5,h6,h7,h8⟩ ih;simp only at hx h2 h3 h4 h5 h6 h7 h8;subst hx;dsimp only;refine Ok.cd (fun h=>?_) (fun h=>?_)
 ·have hk:=dcT h;obtain⟨j,rfl⟩:∃j,k=j+1:=⟨k-1,by omega⟩;have ej:(((j+1:Nat):Int)-1)=(j:Int):=by omega
  rw[ej];rw[nw (k:=v.length) (by omega) (by omega),kG (k:=j+v.length) (by omega) (by omega),zo (k:=j+v.length) (by omega) (by omega),kG (k:=v.length) (by omega) (by omega),zo (k:=v.length) (by omega) (by omega),Dd];rw[dY (l:=v) (k:=v.length-1),dY (l:=v) (k:=v.length-2),dY (l:=u) (k:=j+v.length-1),dY (l:=u) (k:=j+v.length-2)];refine Ok.bde rfl ?_;have j6:vl (u.drop j)<1000000000*vl v:=by
   have:=iW u j;have:=cW h3 j;omega
  have kn:=I5 (X:=u.drop j) lv (js h3 j) hv rfl j4 j6;rw[qf,qf,qf,(by omega:j+(v.length-2)=j+v.length-2),(by omega:j+(v.length-1)=j+v.length-1)]at kn;have d0:=cW h3 (j+v.length-2);have d1:=cW h3 (j+v.length-1);have d2:=cW h3 (j+v.length);have e1:=cW hv (v.length-1);have e2:=cW hv (v.length-2);refine Ok.gd (by rw[bj];simp;omega) (Ok.gd (by rw[bj];simp;omega) ?_);rw[aI (n:=v.getD (v.length-1) 0) (by omega) (by omega),aI (n:=v.getD (v.length-2) 0) (by omega) (by omega),aI (n:=u.getD (j+v.length-2) 0) (by omega) (by omega),aI (n:=u.getD (j+v.length-1) 0) (by omega) (by omega),aI (n:=u.getD (j+v.length) 0) (by omega) (by omega),
   aI (n:=u.getD (j+v.length) 0*1000000000) (by omega) (by omega),aI (n:=u.getD (j+v.length) 0*1000000000+u.getD (j+v.length-1) 0) (by omega) (by omega)]
  refine Ok.gd (by rw[decide_eq_false (by omega)];rfl) ?_;have h9:u.getD (j+v.length) 0*1000000000+u.getD (j+v.length-1) 0=u.getD (j+v.length-1) 0+1000000000*u.getD (j+v.length) 0:=by omega
  rw[h9,(pU (by omega)).1,(pU (by omega)).2,aI (n:=_ / _) (Int.ediv_nonneg (by omega) (by omega)) (Int.le_trans (Int.ediv_le_self _ (by omega)) (by omega))];refine Ok.bd (Fq hn kn rfl rfl (by omega) (by omega)) fun g hg=>?_
  obtain⟨g0,g1,g2,g3⟩:=hg;refine Ok.bd (Ig hn hv h3 ⟨g0,g1⟩ e6 (by omega) (by omega)) ?_;rintro⟨u1,bo,ca⟩ ⟨s1,s2,s3,s4,s5,s6,s7⟩;simp only at s1 s2 s3 s4 s5 s6 s7;dsimp only;refine Ok.gd (by rw[bj];simp;omega) ?_;have e4:=s5 (j+v.length) (by omega);rw[dY,e4,wrap64_in (n:=u.getD (j+v.length) 0) (by omega) (by omega),wrap64_in (n:=u.getD (j+v.length) 0-bo) (by omega) (by omega),wrap64_in (n:=ca) (by omega) (by omega),wrap64_in (n:=u.getD (j+v.length) 0-bo-ca) (by omega) (by omega),Int.toNat_natCast,Int.toNat_natCast];have hzero:∀t,j+v.length+1<=t->u.getD t 0=0:=fun t ht=>DP h3 (t:=j+1+v.length) (by
   have:=pH (js h3 (j+1)) (k:=v.length) (Int.lt_trans h7 (iZ hv));rw[List.drop_drop]at this;exact this) t (by omega)
  have hW:=bn (js h3 j);have last:∀(z:List Int) (d:Int),z.length=u0.length->Dig z->(0<=d/\d<1000000000)->vl z=vl u-pB j*(d*vl v)->vl (z.drop j)<vl v->Ok (again (q.set j d,z,(((j:Nat):Int)-1))) (Ff v u0 m):=by
   intro z d j7 b1 hd j8 c3;refine ih _ ⟨j,rfl,by omega,j7,b1,by simpa using h4,ku h5 hd,?_,c3,?_⟩ (by simp)
   ·intro i hi;simp only;rw[ju (by omega)];exact h6 i (by omega)
   ·simp only;rw[np (by omega),h6 j (by omega),j8];grind
  have c9:Ki ((j:Int)-1)=(j:Int)-1:=wrap64_in (by omega) (by omega);refine Ok.cd (fun h=>?_) (fun h=>?_)
  ·have k4:=dcT h;rw[wrap64_in (n:=u.getD (j+v.length) 0-bo-ca+1000000000) (by omega) (by omega),bt (n:=u.getD (j+v.length) 0-bo-ca+1000000000) (by omega) (by omega)];obtain⟨z2,b1⟩:∃z2,u1.set (j+v.length) (u.getD (j+v.length) 0-bo-ca+1000000000)=z2:=⟨_,rfl⟩;rw[b1];have l2:z2.length=u0.length:=by rw[<-b1];simp;omega
   have c7:Dig z2:=by rw[<-b1];exact ku s2 (by omega)
   have c5:vl z2=vl u+pB j*(pB (v.length+1)-g*vl v):=by
    rw[<-b1,np (by omega),s7,e4,mQ j v.length,df v.length];grind
   have c8:vk z2 j=vk u j:=by rw[<-b1,wq (by omega)];exact s6
   have j1:∀t,j+v.length+1<=t->z2.getD t 0=0:=fun t ht=>by rw[<-b1,ju (by omega),s5 t (by omega)];exact hzero t ht
   have w2:=CN c8 c5;have k7:=win c7 j1;have j9:vl (u.drop j)<g*vl v:=by omega
   have k0:1<=g:=by
    by_cases hh:g=0
    ·rw[hh]at j9;omega
    ·omega
   have k8:=g3 k0;refine Ok.bd (Iv hn hv c7 e6 (by omega) (by omega)) ?_;rintro⟨u3,c⟩ ⟨a1,a2,a3,a4,a5,a6⟩;simp only at a1 a2 a3 a4 a5 a6;dsimp only;refine Ok.gd (by rw[bj];simp;omega) (Ok.gd (by rw[bj];simp;omega) ?_);have k9:=a4 (j+v.length) (by omega);have l0:z2.getD (j+v.length) 0=u.getD (j+v.length) 0-bo-ca+1000000000:=by rw[<-b1,Ft (by omega)]
   rw[dY,aI (n:=g-1) (by omega) (by omega),bt (n:=g-1) (by omega) (by omega),bt (n:=u3.getD (j+v.length) 0+c) (by omega) (by omega),(pU (by omega)).2,c9];obtain⟨o,ho⟩:∃o,(u3.getD (j+v.length) 0+c) / 1000000000=o:=⟨_,rfl⟩;have j2:(u3.getD (j+v.length) 0+c)%1000000000=u3.getD (j+v.length) 0+c-1000000000*o:=by omega
   have c6:o=0\/o=1:=by omega
   obtain⟨z4,c3⟩:∃z4,u3.set (j+v.length) ((u3.getD (j+v.length) 0+c)%1000000000)=z4:=⟨_,rfl⟩;rw[c3];have l4:z4.length=u0.length:=by rw[<-c3];simp;omega
   have j3:Dig z4:=by rw[<-c3];exact ku a2 (by omega)
   have e5:vl z4=vl u+pB j*(pB (v.length+1)*(1-o)-(g-1)*vl v):=by
    rw[<-c3,np (by omega),a6,c5,j2,mQ j v.length,df v.length];grind
   have k1:vk z4 j=vk u j:=by rw[<-c3,wq (by omega)];exact a5.trans c8
   have k2:∀t,j+v.length+1<=t->z4.getD t 0=0:=fun t ht=>by rw[<-c3,ju (by omega),a4 t (by omega)];exact j1 t ht
   have w4:=CN k1 e5;have l1:=win j3 k2;have k3:o=1:=by
    rcases c6 with c6|c6
    ·rw[c6]at w4;omega
    ·exact c6
   rw[k3]at w4 e5;have eg:(g-1)*vl v=g*vl v-vl v:=by grind
   exact last z4 (g-1) l4 j3 (by omega) (by rw[e5];grind) (by omega)
  ·have k5:=dcF h;rw[bt (n:=u.getD (j+v.length) 0-bo-ca) (by omega) (by omega),bt (n:=g) (by omega) (by omega),c9];refine Ok.gd (by rw[bj];simp;omega) ?_;obtain⟨z2,b1⟩:∃z2,u1.set (j+v.length) (u.getD (j+v.length) 0-bo-ca)=z2:=⟨_,rfl⟩;rw[b1];have l2:z2.length=u0.length:=by rw[<-b1];simp;omega
   have c7:Dig z2:=by rw[<-b1];exact ku s2 (by omega)
   have c5:vl z2=vl u-pB j*(g*vl v):=by
    rw[<-b1,np (by omega),s7,e4,mQ j v.length];grind
   have c8:vk z2 j=vk u j:=by rw[<-b1,wq (by omega)];exact s6
   have w2:=CN (D:=-(g*vl v)) c8 (by rw[c5];grind);have eg:(g+1)*vl v=g*vl v+vl v:=by grind
   exact last z2 g l2 c7 ⟨g0,g1⟩ c5 (by omega)
 ·have hk:=dcF h;obtain rfl:k=0:=by omega
  exact aw.2 ⟨h5,h3,h4,h2,by simpa using h7,h8⟩
end Go.L


set_option linter.all false
namespace Go.L
open Go Go.Eng
theorem zS{d:Int}(hd:0<d)(z:d<=1000000000):∀{l:List Int},Dig l->Dig (cR d l).1/\(cR d l).1.length=l.length/\(0<=(cR d l).2/\(cR d l).2<d)/\vl (cR d l).1*d+(cR d l).2=vl l
 |[],_=>⟨oA,rfl,⟨Int.le_refl _,hd⟩,by show 0*d+0=0;omega⟩
 |g::l,h=>by
  have N:=jm.1 h;obtain⟨h1,h2,O,J⟩:=zS hd z N.2;unfold cR;rcases C:cR d l with⟨q,r⟩;simp only[C]at h1 h2 O J ⊢;have m0:r*1000000000<=(d-1)*1000000000:=by omega
  rw[aI (n:=r*1000000000) (by omega) (by omega),aI (n:=g) (by omega) (by omega),aI (n:=r*1000000000+g) (by omega) (by omega)];generalize hs:r*1000000000+g=s;have j:0<=s:=by omega
  rw[(pU j).1,(pU j).2];have hm:=Int.emod_add_mul_ediv s d;have D:=Int.emod_nonneg s (by omega:d≠0);have E:=Int.emod_lt_of_pos s hd;have m:0<=s / d:=Int.ediv_nonneg j (by omega);have I:s / d<1000000000:=(Int.ediv_lt_iff_lt_mul hd).2 (by omega);rw[aI m (by omega),bt m (by omega)];refine⟨jm.2 ⟨⟨m,I⟩,h1⟩,by simp[h2],⟨D,E⟩,?_⟩;show(s / d+1000000000*vl q)*d+s%d=g+1000000000*vl l;rw[<-J];grind
theorem Bz:∀{l:List Int},Dig l->Can (qE l)/\vl (qE l)=vl l
 |[],_=>⟨trivial,rfl⟩
 |d::l,h=>by
  have j:=jm.1 h;obtain⟨h1,h2⟩:=Bz j.2;unfold qE;show _/\_=d+1000000000*vl l;rw[<-h2];cases m:qE l with
  |nil=>
   simp only;split
   ·rename_i hd;have:d=0:=by simpa using hd
    subst this;exact⟨trivial,rfl⟩
   ·rename_i hd;have:d≠0:=by simpa using hd
    exact⟨⟨j.1,fun _=>this,trivial⟩,rfl⟩
  |cons e r=>
   rw[m]at h1;exact⟨⟨j.1,fun h=>by simp at h,h1⟩,rfl⟩
theorem oY{n:Nat}{a:List Int}{d:Int}(ha:Dig a)(z:a.length<=900)(hd:0<d)(j:d<=1000000000):Ok (gk n a d) fun r=>Can r.1/\(0<=r.2/\r.2<d)/\vl r.1*d+r.2=vl a:=by
 unfold gk;obtain⟨h1,h2,m,q⟩:=zS hd j ha;obtain⟨t1,t2⟩:=Bz h1;refine Ok.gd (by simp;omega) (Ok.gd (by simp;omega) (Ok.gd (by simp;omega) (aw.2 ?_)));simp only;rw[bt m.1 (by omega),t2];exact⟨t1,m,q⟩
theorem yH(n:Nat)(a b:List Int):jO n a b=kb n a b:=rfl
theorem DQ{b:List Int}(hb:Can b)(lb:1<=b.length):1<=b.getD (b.length-1) 0/\b.getD (b.length-1) 0<1000000000/\pB (b.length-1)*b.getD (b.length-1) 0<=vl b/\vl b<pB (b.length-1)*(b.getD (b.length-1) 0+1):=by
 have h1:=sb hb (by rintro rfl;simp at lb);have h2:=cW hb.dig (b.length-1);have e:=gP b (b.length-1);have e2:=iW b (b.length-1);rw[List.drop_of_length_le (by omega:b.length<=b.length-1+1)]at e2;have m:vl ([]:List Int)=0:=rfl;have j:vl (b.drop (b.length-1))=b.getD (b.length-1) 0:=by omega
 rw[j]at e;have q:=jW hb.dig (b.length-1);have z:=vn hb.dig (b.length-1);refine⟨by omega,h2.2,by omega,?_⟩;rw[Int.mul_add];omega
theorem G9{n:Nat}{a b:List Int}(D:1000<=n)(ha:Can a)(hb:Can b)(lb:2<=b.length)(la:a.length<=300)(b1:b.length<=300)(hle:vl b<=vl a):Ok (jF n a b) fun r=>Can r.1/\Can r.2/\vl r.2<vl b/\vl r.1*vl b+vl r.2=vl a:=by
 unfold jF;obtain⟨t1,t2,t3,t4⟩:=DQ hb (by omega);rw[kG (k:=b.length) (by omega) (by omega),dY];obtain⟨t,ht⟩:∃t,b.getD (b.length-1) 0=t:=⟨_,rfl⟩;rw[ht]at t1 t2 t3 t4 ⊢;rw[aI (n:=t) (by omega) (by omega),aI (n:=t+1) (by omega) (by omega),(pU (by omega:(0:Int)<=1000000000)).1];obtain⟨s,hs⟩:∃s,(1000000000:Int) / (t+1)=s:=⟨_,rfl⟩;obtain⟨s1,s2,s3,s4⟩:=sK t1 t2 hs.symm;rw[hs,aI (n:=s) (by omega) (by omega),bt (n:=s) (by omega) (by omega)];refine Ok.gd (by rw[bj];simp;omega) (Ok.gd (by rw[decide_eq_false (by omega)];rfl) ?_);have E:Dig [s]:=gI.2 (by omega);rw[yH,yH];refine Ok.bd (yC D ha.dig E (by omega) (by simp)) ?_;rintro u ⟨u1,u2⟩;refine Ok.bd (yC D hb.dig E (by omega) (by simp)) ?_;rintro v ⟨v1,v2⟩;rw[iP]at u2 v2;have hp:=iO (b.length-1);have ep:pB b.length=1000000000*pB (b.length-1):=by rw[<-df,(by omega:b.length-1+1=b.length)]
 have I:vl v<pB b.length:=by
  have:vl b*s<=(pB (b.length-1)*(t+1)-1)*s:=mrT (by omega) (by omega);have e:(pB (b.length-1)*(t+1)-1)*s=pB (b.length-1)*((t+1)*s)-s:=by grind
  have:pB (b.length-1)*((t+1)*s)<=pB (b.length-1)*1000000000:=mlT s4 (by omega);omega
 have a8:500000000*pB (b.length-1)<=vl v:=by
  have h1:(pB (b.length-1)*t)*s<=vl b*s:=mrT t3 (by omega);have e:(pB (b.length-1)*t)*s=pB (b.length-1)*(t*s):=by grind
  have h2:pB (b.length-1)*500000000<=pB (b.length-1)*(t*s):=mlT s1 (by omega);omega
 have lv:v.length=b.length:=by
  have h1:=mM v1 I;by_cases h:v.length=b.length
  ·exact h
  ·have h2:=iZ v1.dig;have h3:=jJ (by omega:v.length<=b.length-1);omega
 have a1:500000000<=v.getD (v.length-1) 0:=by
  obtain⟨c1,c2,c3,c4⟩:=DQ v1 (by omega);rw[lv]at c4 ⊢;by_cases h:500000000<=v.getD (b.length-1) 0
  ·exact h
  ·have:pB (b.length-1)*(v.getD (b.length-1) 0+1)<=pB (b.length-1)*500000000:=mlT (by omega) (by omega);omega
 have lu:u.length<=a.length+1:=mM u1 (by
  have h1:=iZ ha.dig;have h2:=bn ha.dig;rw[u2,df];have:vl a*s<=vl a*1000000000:=mlT (by omega) h2;omega)
 have b3:v.length<=u.length:=by
  by_cases h:v.length<=u.length
  ·exact h
  ·have:=cS u1.dig v1 (by omega);have:vl b*s<=vl a*s:=mrT hle (by omega);omega
 have fin:∀(J:List Int) (m:Nat) (q r:List Int),vl J=vl u->J.length=v.length+m->J.length<=900->Ff v J m (q,r)->
   Ok (gdO (inS 0 (v.length:Int) r.length) (bdO (ff n (r.take (v.length:Int).toNat)) fun N=>bdO (gk n N s) fun O=>bdO (ff n q) fun T=>some ((T,O.1)))) fun r=>Can r.1/\Can r.2/\vl r.2<vl b/\vl r.1*vl b+vl r.2=vl a:=by
  rintro J m q r e0 e1 e2 ⟨q1,U,q3,q4,Y,q6⟩;simp only at q1 U q3 q4 Y q6;refine Ok.gd (uZ.2 (by omega)) ?_;rw[Int.toNat_natCast];have hz:∀k,v.length<=k->r.getD k 0=0:=DP U (pH U (Int.lt_trans Y (iZ v1.dig)));refine Ok.bd (tl D (sT U _) (by rw[List.length_take];omega)) ?_;rintro w ⟨w1,C⟩;rw[Ah (by omega) hz]at C;have lw:w.length<=900:=by
   have:=mM w1 (k:=v.length) (by rw[C];exact Int.lt_trans Y (iZ v1.dig));omega
  refine Ok.bd (oY w1.dig lw (by omega) (by omega)) ?_;rintro⟨y,c⟩ ⟨y1,y2,y3⟩;simp only at y1 y2 y3;refine Ok.bd (tl D q1 (by omega)) ?_;rintro z ⟨z1,z2⟩;refine aw.2 ⟨z1,y1,?_,?_⟩;all_goals simp only
  ·
   have hmul:(vl y*s+c)+vl q*(vl b*s)=vl a*s:=by rw[y3,C,<-v2,<-u2,<-e0];exact q6
   have a6:vl y*s<vl b*s:=by
    have:vl y*s+c<vl b*s:=by rw[y3,C,<-v2];exact Y
    omega
   exact Int.lt_of_mul_lt_mul_right a6 (by omega)
  ·have hmul:(vl y*s+c)+vl q*(vl b*s)=vl a*s:=by rw[y3,C,<-v2,<-u2,<-e0];exact q6
   have e:c=(vl a-vl y-vl q*vl b)*s:=by grind
   have b4:vl a-vl y-vl q*vl b=0:=by
    by_cases h1:vl a-vl y-vl q*vl b=0
    ·exact h1
    ·exfalso;by_cases h2:1<=vl a-vl y-vl q*vl b
     ·have:1*s<=(vl a-vl y-vl q*vl b)*s:=mrT h2 (by omega);omega
     ·have:(vl a-vl y-vl q*vl b)*s<=(-1)*s:=mrT (by omega) (by omega);omega
   rw[z2];omega
 have b0:pB (v.length-1)<=vl v:=by rw[lv];omega
 have j:∀(w:List Int) (m:Nat),Dig w->w.length+1=v.length+m->vl ((w++[0]).drop m)<vl v:=by
  intro w m hw hl;have e:(w++[0]).drop m=w.drop m++[0]:=by rw[List.drop_append_of_le_length (by omega)]
  rw[e,mR,iP];have h1:=iZ (js hw m);rw[List.length_drop,(by omega:w.length-m=v.length-1)]at h1;omega
 refine Ok.gd (by simp;omega) (Ok.gd (by simp;omega) ?_);have d1:Dig (u++[0]):=lN.2 ⟨u1.dig,gI.2 (by omega)⟩;have e1:vl (u++[0])=vl u:=by rw[mR,iP];omega
 have l1:(u++[(0:Int)]).length=u.length+1:=by simp
 have d2:Dig ((u++[0])++[0]):=lN.2 ⟨d1,gI.2 (by omega)⟩;have e2:vl ((u++[0])++[0])=vl u:=by rw[mR,iP,e1];omega
 have l2:((u++[(0:Int)])++[(0:Int)]).length=u.length+2:=by simp
 refine Ok.bd (R:=fun w=>Dig w/\vl w=vl u/\v.length<=w.length/\w.length<=900/\vl (w.drop (w.length-v.length))<vl v) ?_ ?_
 ·refine Ok.cd (fun h=>?_) (fun h=>aw.2 ?_)
  ·refine Ok.gd (by simp;omega) (Ok.gd (by simp;omega) (aw.2 ⟨d2,e2,by omega,by omega,?_⟩));exact j _ _ d1 (by omega)
  ·exact⟨d1,e1,by omega,by omega,j _ _ u1.dig (by omega)⟩
 rintro w ⟨w1,C,w3,w4,w5⟩;have hw:Ki ((w.length:Int)-(v.length:Int))=((w.length-v.length:Nat):Int):=by rw[wrap64_in (by omega) (by omega)];omega
 rw[hw,Int.toNat_natCast];refine Ok.gd (by simp;try omega) (Ok.gd (by simp;try omega) (Ok.gd (by simp;try omega) ?_));refine Ok.bd (HD D v1.dig a1 (by omega) (by omega) w1 (m:=w.length-v.length) (by omega) (by omega) w5 (by rw[wrap64_in (by omega) (by omega)])) ?_;rintro⟨q,r⟩ a7;exact fin _ _ q r C (by omega) (by omega) a7
end Go.L

