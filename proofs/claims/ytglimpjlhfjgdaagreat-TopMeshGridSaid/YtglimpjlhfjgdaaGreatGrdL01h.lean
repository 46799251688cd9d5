import Derived.Test.YtglimpjlhfjgdaaGreatGrdL01k
set_option linter.all false
namespace Go.L
open Go Go.Eng
theorem yd{k:Nat}(h:1<k)(h2:k<=4000000000):Jt ((k:Int)-2)=((k-2:Nat):Int):=by rw[wrap64_in (by omega) (by omega)];omega
theorem u4{l:List Int}{k j:Nat}{x:Int}(h:j<=k):vk (l.set k x) j=vk l j:=by unfold vk;rw[List.take_set_of_le h]
def CI(v j:List Int)(m:Nat)(r:List Int×List Int):Prop:=Dig r.1/\Dig r.2/\r.1.length=m/\r.2.length=j.length/\vl r.2<vl v/\vl r.2+vl r.1*vl v=vl j
theorem Ez{n:Nat}(hn:1000<=n){v u0:List Int}{m:Nat}(hv:Dig v)(e9:500000000<=v.getD (v.length-1) 0)(lv:2<=v.length)(c8:v.length<=400)(hu:Dig u0)(lu:u0.length=v.length+m)(k1:u0.length<=900)(h0:vl (u0.drop m)<vl v){j0:Int}(h9:j0=(m:Int)-1):
  Ok (aK (α:=List Int×List Int×Int) (β:=List Int×List Int) n (fun b4 (b5,a8,p)=>(
   cdO (decide (p>=0)) (
    bdO (gT n a8 (Jt (p+(v.length:Int)))) fun c9=>(
    gdO (inR (Jt ((Jt (p+(v.length:Int)))-1)) a8.length) (
    gdO (inR (Jt ((v.length:Int)-1)) v.length) (
    gdO (!decide (aa .u64 (gt v (Jt ((v.length:Int)-1)))=0)) (
    bdO (aK (α:=Int×Int) (β:=Int) n (fun b0 (I,O)=>(
     cdO (decide (I>=1000000000)) (
      cdO (decide ((aa .u64 (O+(aa .u64 (gt v (Jt ((v.length:Int)-1))))))>=1000000000)) (
       some (aa .u64 (I-1))
      ) (
       b0 (aa .u64 (I-1),aa .u64 (O+(aa .u64 (gt v (Jt ((v.length:Int)-1))))))
      )
     ) (
      gdO (inR (Jt ((v.length:Int)-2)) v.length) (
      gdO (inR (Jt ((Jt (p+(v.length:Int)))-2)) a8.length) (
      cdO (decide ((aa .u64 (I*(aa .u64 (gt v (Jt ((v.length:Int)-2))))))>(aa .u64 ((aa .u64 (O*1000000000))+(aa .u64 (gt a8 (Jt ((Jt (p+(v.length:Int)))-2)))))))) (
       cdO (decide ((aa .u64 (O+(aa .u64 (gt v (Jt ((v.length:Int)-1))))))>=1000000000)) (
        some (aa .u64 (I-1))
       ) (
        b0 (aa .u64 (I-1),aa .u64 (O+(aa .u64 (gt v (Jt ((v.length:Int)-1))))))
       )
      ) (
       some (I)
      )
      )
      )
     )
    )) (aa .u64 ((aa .u64 ((aa .u64 ((aa .u64 c9)*1000000000))+(aa .u64 (gt a8 (Jt ((Jt (p+(v.length:Int)))-1)))))).tdiv (aa .u64 (gt v (Jt ((v.length:Int)-1))))),(aa .u64 ((aa .u64 ((aa .u64 c9)*1000000000))+(aa .u64 (gt a8 (Jt ((Jt (p+(v.length:Int)))-1)))))).tmod (aa .u64 (gt v (Jt ((v.length:Int)-1)))))) fun C=>(
     bdO (aK (α:=List Int×Int×Int×Int) (β:=List Int×Int×Int) n (fun b1 (T,N,J,E)=>(
      cdO (decide (E<(v.length:Int))) (
       gdO (inR E v.length) (
       gdO (inR (Jt (E+p)) T.length) (
       cdO (decide ((Jt ((Jt ((Jt (gt T (Jt (E+p))))-N))-(Jt ((aa .u64 ((aa .u64 (C*(aa .u64 (gt v E))))+J)).tmod 1000000000))))<0)) (
        b1 (T.set (Jt (E+p)).toNat (aa .u32 (Jt ((Jt ((Jt ((Jt (gt T (Jt (E+p))))-N))-(Jt ((aa .u64 ((aa .u64 (C*(aa .u64 (gt v E))))+J)).tmod 1000000000))))+1000000000))),1,aa .u64 ((aa .u64 ((aa .u64 (C*(aa .u64 (gt v E))))+J)).tdiv 1000000000),Jt (E+1))
       ) (
        b1 (T.set (Jt (E+p)).toNat (aa .u32 (Jt ((Jt ((Jt (gt T (Jt (E+p))))-N))-(Jt ((aa .u64 ((aa .u64 (C*(aa .u64 (gt v E))))+J)).tmod 1000000000))))),0,aa .u64 ((aa .u64 ((aa .u64 (C*(aa .u64 (gt v E))))+J)).tdiv 1000000000),Jt (E+1))
       )
       )
       )
      ) (
       some ((T,N,J))
      )
     )) (a8,0,0,0)) fun e3=>(
      match e3 with
      |(a7,S,U)=>(
       gdO (inR (Jt (p+(v.length:Int))) a7.length) (
       cdO (decide ((Jt ((Jt ((Jt (gt a7 (Jt (p+(v.length:Int)))))-S))-(Jt U)))<0)) (
        bdO (aK (α:=List Int×Int×Int) (β:=List Int×Int) n (fun b2 (Y,b3,M)=>(
         cdO (decide (M<(v.length:Int))) (
          gdO (inR (Jt (M+p)) Y.length) (
          gdO (inR M v.length) (
          cdO (decide ((aa .u32 ((aa .u32 ((gt Y (Jt (M+p)))+(gt v M)))+b3))>=1000000000)) (
           b2 (Y.set (Jt (M+p)).toNat (aa .u32 ((aa .u32 ((aa .u32 ((gt Y (Jt (M+p)))+(gt v M)))+b3))-1000000000)),1,Jt (M+1))
          ) (
           b2 (Y.set (Jt (M+p)).toNat (aa .u32 ((aa .u32 ((gt Y (Jt (M+p)))+(gt v M)))+b3)),0,Jt (M+1))
          )
          )
          )
         ) (
          some ((Y,b3))
         )
        )) (a7.set (Jt (p+(v.length:Int))).toNat (aa .u32 (Jt ((Jt ((Jt ((Jt (gt a7 (Jt (p+(v.length:Int)))))-S))-(Jt U)))+1000000000))),0,0)) fun e4=>(
         match e4 with
         |(b7,c5)=>(
          gdO (inR (Jt (p+(v.length:Int))) b7.length) (
          gdO (inR p b5.length) (
          b4 (b5.set p.toNat (aa .u32 (aa .u64 (C-1))),b7.set (Jt (p+(v.length:Int))).toNat ((aa .u32 ((gt b7 (Jt (p+(v.length:Int))))+c5)).tmod 1000000000),Jt (p-1))
          )
          )
         ))
       ) (
        gdO (inR p b5.length) (
        b4 (b5.set p.toNat (aa .u32 C),a7.set (Jt (p+(v.length:Int))).toNat (aa .u32 (Jt ((Jt ((Jt (gt a7 (Jt (p+(v.length:Int)))))-S))-(Jt U)))),Jt (p-1))
        )
       )
       )
      ))
    )
    )
    )
    )
    )
   ) (
    some ((b5,a8))
   )
  )) (List.replicate m (0:Int),u0,j0)) (CI v u0 m):=by
 subst h9;have hV:=aZ hv;refine dx (fun x:List Int×List Int×Int=>∃k:Nat,x.2.2=(k:Int)-1/\k<=m/\x.2.1.length=u0.length/\Dig x.2.1/\x.1.length=m/\Dig x.1/\(∀i,i<k->x.1.getD i 0=0)/\vl (x.2.1.drop k)<vl v/\vl x.2.1+vl x.1*vl v=vl u0) (fun x=>(x.2.2+1).toNat) ?_ n _
  ⟨m,rfl,Nat.le_refl _,rfl,hu,by simp,qb _,fun i _=>uT,h0,by simp[vg]⟩ (by simp;omega)
 rintro again ⟨q,u,x⟩ ⟨k,hx,h1,h2,h3,h4,h5,h6,h7,h8⟩ ih;simp only at hx h2 h3 h4 h5 h6 h7 h8;subst hx;dsimp only;refine Ok.cd (fun h=>?_) (fun h=>?_)
 ·have hk:=dcT h;obtain⟨j,rfl⟩:∃j,k=j+1:=⟨k-1,by omega⟩;have ej:(((j+1:Nat):Int)-1)=(j:Int):=by omega
  rw[ej];rw[mH (k:=v.length) (by omega) (by omega),lS (k:=j+v.length) (by omega) (by omega),yd (k:=j+v.length) (by omega) (by omega),lS (k:=v.length) (by omega) (by omega),yd (k:=v.length) (by omega) (by omega),BO];rw[dN (l:=v) (k:=v.length-1),dN (l:=v) (k:=v.length-2),dN (l:=u) (k:=j+v.length-1),dN (l:=u) (k:=j+v.length-2)];refine Ok.bde rfl ?_;have j1:vl (u.drop j)<1000000000*vl v:=by
   have:=iy u j;have:=cI h3 j;omega
  have kn:=Ha (X:=u.drop j) lv (iN h3 j) hv rfl e9 j1;rw[pP,pP,pP,(by omega:j+(v.length-2)=j+v.length-2),(by omega:j+(v.length-1)=j+v.length-1)]at kn;have d0:=cI h3 (j+v.length-2);have d1:=cI h3 (j+v.length-1);have d2:=cI h3 (j+v.length);have e1:=cI hv (v.length-1);have e2:=cI hv (v.length-2);refine Ok.gd (by rw[bb];simp;omega) (Ok.gd (by rw[bb];simp;omega) ?_);rw[aE (n:=v.getD (v.length-1) 0) (by omega) (by omega),aE (n:=v.getD (v.length-2) 0) (by omega) (by omega),aE (n:=u.getD (j+v.length-2) 0) (by omega) (by omega),aE (n:=u.getD (j+v.length-1) 0) (by omega) (by omega),aE (n:=u.getD (j+v.length) 0) (by omega) (by omega),
   aE (n:=u.getD (j+v.length) 0*1000000000) (by omega) (by omega),aE (n:=u.getD (j+v.length) 0*1000000000+u.getD (j+v.length-1) 0) (by omega) (by omega)]
  refine Ok.gd (by rw[decide_eq_false (by omega)];rfl) ?_;have e5:u.getD (j+v.length) 0*1000000000+u.getD (j+v.length-1) 0=u.getD (j+v.length-1) 0+1000000000*u.getD (j+v.length) 0:=by omega
  rw[e5,(pd (by omega)).1,(pd (by omega)).2,aE (n:=_ / _) (Int.ediv_nonneg (by omega) (by omega)) (Int.le_trans (Int.ediv_le_self _ (by omega)) (by omega))];refine Ok.bd (CW hn kn rfl rfl (by omega) (by omega)) fun g hg=>?_
  obtain⟨g0,g1,g2,g3⟩:=hg;refine Ok.bd (Gj hn hv h3 ⟨g0,g1⟩ c8 (by omega) (by omega)) ?_;rintro⟨u1,bo,ca⟩ ⟨s1,s2,s3,s4,s5,s6,s7⟩;simp only at s1 s2 s3 s4 s5 s6 s7;dsimp only;refine Ok.gd (by rw[bb];simp;omega) ?_;have c6:=s5 (j+v.length) (by omega);rw[dN,c6,wrap64_in (n:=u.getD (j+v.length) 0) (by omega) (by omega),wrap64_in (n:=u.getD (j+v.length) 0-bo) (by omega) (by omega),wrap64_in (n:=ca) (by omega) (by omega),wrap64_in (n:=u.getD (j+v.length) 0-bo-ca) (by omega) (by omega),Int.toNat_natCast,Int.toNat_natCast];have hzero:∀t,j+v.length+1<=t->u.getD t 0=0:=fun t ht=>BJ h3 (t:=j+1+v.length) (by
   have:=oV (iN h3 (j+1)) (k:=v.length) (Int.lt_trans h7 (gL hv));rw[List.drop_drop]at this;exact this) t (by omega)
  have hW:=aZ (iN h3 j);have last:∀(z:List Int) (d:Int),z.length=u0.length->Dig z->(0<=d/\d<1000000000)->vl z=vl u-pB j*(d*vl v)->vl (z.drop j)<vl v->Ok (again (q.set j d,z,(((j:Nat):Int)-1))) (CI v u0 m):=by
   intro z d j2 Z hd j3 b6;refine ih _ ⟨j,rfl,by omega,j2,Z,by simpa using h4,jN h5 hd,?_,b6,?_⟩ (by simp)
   ·intro i hi;simp only;rw[iR (by omega)];exact h6 i (by omega)
   ·simp only;rw[mq (by omega),h6 j (by omega),j3];grind
  have c4:Jt ((j:Int)-1)=(j:Int)-1:=wrap64_in (by omega) (by omega);refine Ok.cd (fun h=>?_) (fun h=>?_)
  ·have j9:=dcT h;rw[wrap64_in (n:=u.getD (j+v.length) 0-bo-ca+1000000000) (by omega) (by omega),bj (n:=u.getD (j+v.length) 0-bo-ca+1000000000) (by omega) (by omega)];obtain⟨z2,Z⟩:∃z2,u1.set (j+v.length) (u.getD (j+v.length) 0-bo-ca+1000000000)=z2:=⟨_,rfl⟩;rw[Z];have l2:z2.length=u0.length:=by rw[<-Z];simp;omega
   have c0:Dig z2:=by rw[<-Z];exact jN s2 (by omega)
   have b8:vl z2=vl u+pB j*(pB (v.length+1)-g*vl v):=by
    rw[<-Z,mq (by omega),s7,c6,lR j v.length,cL v.length];grind
   have c3:vk z2 j=vk u j:=by rw[<-Z,u4 (by omega)];exact s6
   have e6:∀t,j+v.length+1<=t->z2.getD t 0=0:=fun t ht=>by rw[<-Z,iR (by omega),s5 t (by omega)];exact hzero t ht
   have w2:=AU c3 b8;have k2:=win c0 e6;have j4:vl (u.drop j)<g*vl v:=by omega
   have j5:1<=g:=by
    by_cases hh:g=0
    ·rw[hh]at j4;omega
    ·omega
   have k3:=g3 j5;refine Ok.bd (F7 hn hv c0 c8 (by omega) (by omega)) ?_;rintro⟨u3,c⟩ ⟨a1,a2,a3,a4,a5,a6⟩;simp only at a1 a2 a3 a4 a5 a6;dsimp only;refine Ok.gd (by rw[bb];simp;omega) (Ok.gd (by rw[bb];simp;omega) ?_);have k4:=a4 (j+v.length) (by omega);have k5:z2.getD (j+v.length) 0=u.getD (j+v.length) 0-bo-ca+1000000000:=by rw[<-Z,De (by omega)]
   rw[dN,aE (n:=g-1) (by omega) (by omega),bj (n:=g-1) (by omega) (by omega),bj (n:=u3.getD (j+v.length) 0+c) (by omega) (by omega),(pd (by omega)).2,c4];obtain⟨o,ho⟩:∃o,(u3.getD (j+v.length) 0+c) / 1000000000=o:=⟨_,rfl⟩;have e7:(u3.getD (j+v.length) 0+c)%1000000000=u3.getD (j+v.length) 0+c-1000000000*o:=by omega
   have b9:o=0\/o=1:=by omega
   obtain⟨z4,b6⟩:∃z4,u3.set (j+v.length) ((u3.getD (j+v.length) 0+c)%1000000000)=z4:=⟨_,rfl⟩;rw[b6];have l4:z4.length=u0.length:=by rw[<-b6];simp;omega
   have e8:Dig z4:=by rw[<-b6];exact jN a2 (by omega)
   have c7:vl z4=vl u+pB j*(pB (v.length+1)*(1-o)-(g-1)*vl v):=by
    rw[<-b6,mq (by omega),a6,b8,e7,lR j v.length,cL v.length];grind
   have j6:vk z4 j=vk u j:=by rw[<-b6,u4 (by omega)];exact a5.trans c3
   have j7:∀t,j+v.length+1<=t->z4.getD t 0=0:=fun t ht=>by rw[<-b6,iR (by omega),a4 t (by omega)];exact e6 t ht
   have w4:=AU j6 c7;have k6:=win e8 j7;have j8:o=1:=by
    rcases b9 with b9|b9
    ·rw[b9]at w4;omega
    ·exact b9
   rw[j8]at w4 c7;have eg:(g-1)*vl v=g*vl v-vl v:=by grind
   exact last z4 (g-1) l4 e8 (by omega) (by rw[c7];grind) (by omega)
  ·have k0:=dcF h;rw[bj (n:=u.getD (j+v.length) 0-bo-ca) (by omega) (by omega),bj (n:=g) (by omega) (by omega),c4];refine Ok.gd (by rw[bb];simp;omega) ?_;obtain⟨z2,Z⟩:∃z2,u1.set (j+v.length) (u.getD (j+v.length) 0-bo-ca)=z2:=⟨_,rfl⟩;rw[Z];have l2:z2.length=u0.length:=by rw[<-Z];simp;omega
   have c0:Dig z2:=by rw[<-Z];exact jN s2 (by omega)
   have b8:vl z2=vl u-pB j*(g*vl v):=by
    rw[<-Z,mq (by omega),s7,c6,lR j v.length];grind
   have c3:vk z2 j=vk u j:=by rw[<-Z,u4 (by omega)];exact s6
   have w2:=AU (D:=-(g*vl v)) c3 (by rw[b8];grind);have eg:(g+1)*vl v=g*vl v+vl v:=by grind
   exact last z2 g l2 c0 ⟨g0,g1⟩ b8 (by omega)
 ·have hk:=dcF h;obtain rfl:k=0:=by omega
  exact ar.2 ⟨h5,h3,h4,h2,by simpa using h7,h8⟩
end Go.L


set_option linter.all false
namespace Go.L
open Go Go.Eng
theorem ya{d:Int}(p:0<d)(z:d<=1000000000):∀{l:List Int},Dig l->Dig (cD d l).1/\(cD d l).1.length=l.length/\(0<=(cD d l).2/\(cD d l).2<d)/\vl (cD d l).1*d+(cD d l).2=vl l
 |[],_=>⟨nA,rfl,⟨Int.le_refl _,p⟩,by show 0*d+0=0;omega⟩
 |g::l,h=>by
  have M:=iQ.1 h;obtain⟨h1,h2,N,J⟩:=ya p z M.2;unfold cD;rcases C:cD d l with⟨q,r⟩;simp only[C]at h1 h2 N J ⊢;have m0:r*1000000000<=(d-1)*1000000000:=by omega
  rw[aE (n:=r*1000000000) (by omega) (by omega),aE (n:=g) (by omega) (by omega),aE (n:=r*1000000000+g) (by omega) (by omega)];generalize hs:r*1000000000+g=s;have j:0<=s:=by omega
  rw[(pd j).1,(pd j).2];have hm:=Int.emod_add_mul_ediv s d;have D:=Int.emod_nonneg s (by omega:d≠0);have E:=Int.emod_lt_of_pos s p;have m:0<=s / d:=Int.ediv_nonneg j (by omega);have I:s / d<1000000000:=(Int.ediv_lt_iff_lt_mul p).2 (by omega);rw[aE m (by omega),bj m (by omega)];refine⟨iQ.2 ⟨⟨m,I⟩,h1⟩,by simp[h2],⟨D,E⟩,?_⟩;show(s / d+1000000000*vl q)*d+s%d=g+1000000000*vl l;rw[<-J];grind
theorem zu:∀{l:List Int},Dig l->Can (pt l)/\vl (pt l)=vl l
 |[],_=>⟨trivial,rfl⟩
 |d::l,h=>by
  have j:=iQ.1 h;obtain⟨h1,h2⟩:=zu j.2;unfold pt;show _/\_=d+1000000000*vl l;rw[<-h2];cases p:pt l with
  |nil=>
   simp only;split
   ·rename_i m;have:d=0:=by simpa using m
    subst this;exact⟨trivial,rfl⟩
   ·rename_i m;have:d≠0:=by simpa using m
    exact⟨⟨j.1,fun _=>this,trivial⟩,rfl⟩
  |cons e r=>
   rw[p]at h1;exact⟨⟨j.1,fun h=>by simp at h,h1⟩,rfl⟩
theorem nY{n:Nat}{a:List Int}{d:Int}(p:Dig a)(C:a.length<=900)(q:0<d)(j:d<=1000000000):Ok (fH n a d) fun r=>Can r.1/\(0<=r.2/\r.2<d)/\vl r.1*d+r.2=vl a:=by
 unfold fH;obtain⟨h1,h2,m,z⟩:=ya q j p;obtain⟨t1,t2⟩:=zu h1;refine Ok.gd (by simp;omega) (Ok.gd (by simp;omega) (Ok.gd (by simp;omega) (ar.2 ?_)));simp only;rw[bj m.1 (by omega),t2];exact⟨t1,m,z⟩
theorem wA(n:Nat)(a b:List Int):jt n a b=jF n a b:=rfl
theorem B0{b:List Int}(j:Can b)(lb:1<=b.length):1<=b.getD (b.length-1) 0/\b.getD (b.length-1) 0<1000000000/\pB (b.length-1)*b.getD (b.length-1) 0<=vl b/\vl b<pB (b.length-1)*(b.getD (b.length-1) 0+1):=by
 have h1:=rP j (by rintro rfl;simp at lb);have h2:=cI j.dig (b.length-1);have e:=fZ b (b.length-1);have e2:=iy b (b.length-1);rw[List.drop_of_length_le (by omega:b.length<=b.length-1+1)]at e2;have p:vl ([]:List Int)=0:=rfl;have m:vl (b.drop (b.length-1))=b.getD (b.length-1) 0:=by omega
 rw[m]at e;have q:=jC j.dig (b.length-1);have z:=ui j.dig (b.length-1);refine⟨by omega,h2.2,by omega,?_⟩;rw[Int.mul_add];omega
theorem Ek{n:Nat}{a b:List Int}(C:1000<=n)(U:Can a)(hb:Can b)(lb:2<=b.length)(la:a.length<=300)(b0:b.length<=300)(hle:vl b<=vl a):Ok (jg n a b) fun r=>Can r.1/\Can r.2/\vl r.2<vl b/\vl r.1*vl b+vl r.2=vl a:=by
 unfold jg;obtain⟨t1,t2,t3,t4⟩:=B0 hb (by omega);rw[lS (k:=b.length) (by omega) (by omega),dN];obtain⟨t,ht⟩:∃t,b.getD (b.length-1) 0=t:=⟨_,rfl⟩;rw[ht]at t1 t2 t3 t4 ⊢;rw[aE (n:=t) (by omega) (by omega),aE (n:=t+1) (by omega) (by omega),(pd (by omega:(0:Int)<=1000000000)).1];obtain⟨s,hs⟩:∃s,(1000000000:Int) / (t+1)=s:=⟨_,rfl⟩;obtain⟨s1,s2,s3,s4⟩:=rR t1 t2 hs.symm;rw[hs,aE (n:=s) (by omega) (by omega),bj (n:=s) (by omega) (by omega)];refine Ok.gd (by rw[bb];simp;omega) (Ok.gd (by rw[decide_eq_false (by omega)];rfl) ?_);have D:Dig [s]:=fV.2 (by omega);rw[wA,wA];refine Ok.bd (xn C U.dig D (by omega) (by simp)) ?_;rintro u ⟨u1,u2⟩;refine Ok.bd (xn C hb.dig D (by omega) (by simp)) ?_;rintro v ⟨v1,v2⟩;rw[gY]at u2 v2;have hp:=gM (b.length-1);have ep:pB b.length=1000000000*pB (b.length-1):=by rw[<-cL,(by omega:b.length-1+1=b.length)]
 have E:vl v<pB b.length:=by
  have:vl b*s<=(pB (b.length-1)*(t+1)-1)*s:=mrT (by omega) (by omega);have e:(pB (b.length-1)*(t+1)-1)*s=pB (b.length-1)*((t+1)*s)-s:=by grind
  have:pB (b.length-1)*((t+1)*s)<=pB (b.length-1)*1000000000:=mlT s4 (by omega);omega
 have a7:500000000*pB (b.length-1)<=vl v:=by
  have h1:(pB (b.length-1)*t)*s<=vl b*s:=mrT t3 (by omega);have e:(pB (b.length-1)*t)*s=pB (b.length-1)*(t*s):=by grind
  have h2:pB (b.length-1)*500000000<=pB (b.length-1)*(t*s):=mlT s1 (by omega);omega
 have lv:v.length=b.length:=by
  have h1:=kK v1 E;by_cases h:v.length=b.length
  ·exact h
  ·have h2:=gL v1.dig;have h3:=ik (by omega:v.length<=b.length-1);omega
 have Y:500000000<=v.getD (v.length-1) 0:=by
  obtain⟨c1,c2,c3,c4⟩:=B0 v1 (by omega);rw[lv]at c4 ⊢;by_cases h:500000000<=v.getD (b.length-1) 0
  ·exact h
  ·have:pB (b.length-1)*(v.getD (b.length-1) 0+1)<=pB (b.length-1)*500000000:=mlT (by omega) (by omega);omega
 have lu:u.length<=a.length+1:=kK u1 (by
  have h1:=gL U.dig;have h2:=aZ U.dig;rw[u2,cL];have:vl a*s<=vl a*1000000000:=mlT (by omega) h2;omega)
 have b1:v.length<=u.length:=by
  by_cases h:v.length<=u.length
  ·exact h
  ·have:=cr u1.dig v1 (by omega);have:vl b*s<=vl a*s:=mrT hle (by omega);omega
 have fin:∀(I:List Int) (m:Nat) (q r:List Int),vl I=vl u->I.length=v.length+m->I.length<=900->CI v I m (q,r)->
   Ok (gdO (inS 0 (v.length:Int) r.length) (bdO (ei n (r.take (v.length:Int).toNat)) fun J=>bdO (fH n J s) fun M=>bdO (ei n q) fun N=>some ((N,M.1)))) fun r=>Can r.1/\Can r.2/\vl r.2<vl b/\vl r.1*vl b+vl r.2=vl a:=by
  rintro I m q r e0 e1 e2 ⟨q1,O,q3,q4,S,Z⟩;simp only at q1 O q3 q4 S Z;refine Ok.gd (ug.2 (by omega)) ?_;rw[Int.toNat_natCast];have hz:∀k,v.length<=k->r.getD k 0=0:=BJ O (oV O (Int.lt_trans S (gL v1.dig)));refine Ok.bd (rU C (qZ O _) (by rw[List.length_take];omega)) ?_;rintro w ⟨w1,p⟩;rw[yB (by omega) hz]at p;have lw:w.length<=900:=by
   have:=kK w1 (k:=v.length) (by rw[p];exact Int.lt_trans S (gL v1.dig));omega
  refine Ok.bd (nY w1.dig lw (by omega) (by omega)) ?_;rintro⟨y,c⟩ ⟨y1,y2,T⟩;simp only at y1 y2 T;refine Ok.bd (rU C q1 (by omega)) ?_;rintro z ⟨z1,z2⟩;refine ar.2 ⟨z1,y1,?_,?_⟩;all_goals simp only
  ·
   have hmul:(vl y*s+c)+vl q*(vl b*s)=vl a*s:=by rw[T,p,<-v2,<-u2,<-e0];exact Z
   have a1:vl y*s<vl b*s:=by
    have:vl y*s+c<vl b*s:=by rw[T,p,<-v2];exact S
    omega
   exact Int.lt_of_mul_lt_mul_right a1 (by omega)
  ·have hmul:(vl y*s+c)+vl q*(vl b*s)=vl a*s:=by rw[T,p,<-v2,<-u2,<-e0];exact Z
   have e:c=(vl a-vl y-vl q*vl b)*s:=by grind
   have b2:vl a-vl y-vl q*vl b=0:=by
    by_cases h1:vl a-vl y-vl q*vl b=0
    ·exact h1
    ·exfalso;by_cases h2:1<=vl a-vl y-vl q*vl b
     ·have:1*s<=(vl a-vl y-vl q*vl b)*s:=mrT h2 (by omega);omega
     ·have:(vl a-vl y-vl q*vl b)*s<=(-1)*s:=mrT (by omega) (by omega);omega
   rw[z2];omega
 have a8:pB (v.length-1)<=vl v:=by rw[lv];omega
 have j:∀(w:List Int) (m:Nat),Dig w->w.length+1=v.length+m->vl ((w++[0]).drop m)<vl v:=by
  intro w m hw hl;have e:(w++[0]).drop m=w.drop m++[0]:=by rw[List.drop_append_of_le_length (by omega)]
  rw[e,lI,gY];have h1:=gL (iN hw m);rw[List.length_drop,(by omega:w.length-m=v.length-1)]at h1;omega
 refine Ok.gd (by simp;omega) (Ok.gd (by simp;omega) ?_);have d1:Dig (u++[0]):=kN.2 ⟨u1.dig,fV.2 (by omega)⟩;have e1:vl (u++[0])=vl u:=by rw[lI,gY];omega
 have l1:(u++[(0:Int)]).length=u.length+1:=by simp
 have d2:Dig ((u++[0])++[0]):=kN.2 ⟨d1,fV.2 (by omega)⟩;have e2:vl ((u++[0])++[0])=vl u:=by rw[lI,gY,e1];omega
 have l2:((u++[(0:Int)])++[(0:Int)]).length=u.length+2:=by simp
 refine Ok.bd (R:=fun w=>Dig w/\vl w=vl u/\v.length<=w.length/\w.length<=900/\vl (w.drop (w.length-v.length))<vl v) ?_ ?_
 ·refine Ok.cd (fun h=>?_) (fun h=>ar.2 ?_)
  ·refine Ok.gd (by simp;omega) (Ok.gd (by simp;omega) (ar.2 ⟨d2,e2,by omega,by omega,?_⟩));exact j _ _ d1 (by omega)
  ·exact⟨d1,e1,by omega,by omega,j _ _ u1.dig (by omega)⟩
 rintro w ⟨w1,p,w3,w4,w5⟩;have hw:Jt ((w.length:Int)-(v.length:Int))=((w.length-v.length:Nat):Int):=by rw[wrap64_in (by omega) (by omega)];omega
 rw[hw,Int.toNat_natCast];refine Ok.gd (by simp;try omega) (Ok.gd (by simp;try omega) (Ok.gd (by simp;try omega) ?_));refine Ok.bd (Ez C v1.dig Y (by omega) (by omega) w1 (m:=w.length-v.length) (by omega) (by omega) w5 (by rw[wrap64_in (by omega) (by omega)])) ?_;rintro⟨q,r⟩ a6;exact fin _ _ q r p (by omega) (by omega) a6
end Go.L

